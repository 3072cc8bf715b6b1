/- Joined by program out of: Core27, Core28, Core29, Core30, CoreOwn, Core31, Core32, Core33, Core34. -/
import Derived.Test.YtggfjmfkcmicjaaGreatDoorDipB
import Derived.LoopN
import Derived.Scope
set_option linter.all false
/- An ideal semantics of the model's code, part 27: regions that draw their order. -/
section
set_option linter.unusedVariables false
set_option linter.unusedSimpArgs false
namespace Go.Dip
section
variable {R : Type} {r : R} {P : Program} {E : Env} {tB : TypeId} {W0 : World}
theorem apartB_iff {c d : Rec} (h : apartB c d = true) : Apart c d := by
  simp only [apartB, Bool.and_eq_true, List.all_eq_true] at h
  obtain ⟨h1, h2, h3⟩ := h
  have no : ∀ {l : List Nat} {z : Nat}, (!isIn l z) = true → z ∉ l := fun {l z} h hm => by rw [isIn_iff.2 hm] at h; cases h
  refine ⟨?_, fun z hz => ?_, fun z hz => ?_, fun z hz => ?_⟩
  · intro i e1 e2
    simp [dstB, e1, e2] at h1
  · exact no (h2 z hz).1
  · exact no (h3 z hz)
  · exact no (h2 z hz).2
theorem freeB_iff {c : Rec} {s : St} (h : freeB c s = true) : Free c s := by
  simp only [freeB, Bool.and_eq_true, List.all_eq_true, Option.isNone_iff_eq_none] at h
  obtain ⟨h1, h2⟩ := h
  have no : ∀ {l : List Nat} {z : Nat}, (!isIn l z) = true → z ∉ l := fun {l z} h hm => by rw [isIn_iff.2 hm] at h; cases h
  refine ⟨fun i e => ?_, fun z hz => (h2 z hz).1, fun z hz => ⟨fun i v hv => ?_, fun q o ho => ?_⟩⟩
  · rw [e] at h1
    simpa using h1
  · exact no ((h2 z hz).2.1 (i, v) (look_mem _ _ _ hv))
  · exact no ((h2 z hz).2.2 (q, o) (look_mem _ _ _ ho))
theorem meetOk_inv {p : Nat} {d : Rec} {z : St} : ∀ {l : List (Rec × St)} {i : Nat}, meetOk p d z i l = true → ∀ j x, l[j]? = some x → Nat.testBit p (i + j) = false → Apart x.1 d ∧ Free x.1 z ∧ Free d x.2
  | [], i, _, j, x, hj, _ => by simp at hj
  | y :: l, i, h, j, x, hj, hp => by
    simp only [meetOk, Bool.and_eq_true, Bool.or_eq_true] at h
    cases j with
    | zero =>
      simp only [List.getElem?_cons_zero, Option.some.injEq] at hj
      subst hj
      rcases h.1 with e | e
      · rw [Nat.add_zero] at hp; rw [hp] at e; cases e
      · simp only [pairOk, Bool.and_eq_true] at e
        exact ⟨apartB_iff e.1, freeB_iff e.2.1, freeB_iff e.2.2⟩
    | succ j => exact meetOk_inv h.2 j x (by simpa using hj) (by rw [← hp]; congr 1; omega)
theorem waitsFor_inv {tab : List Nat} {i : Nat} : ∀ {l : List Edge}, Nat.testBit (waitsFor tab l) i = true → ∃ e, e ∈ l ∧ bindsAny e = true ∧ (i = e.on ∨ Nat.testBit (tab.getD e.on 0) i = true)
  | [], h => by simp [waitsFor] at h
  | e :: l, h => by
    simp only [waitsFor] at h
    cases hb : Region.binds .any e
    · rw [hb] at h
      obtain ⟨e', h1, h2⟩ := waitsFor_inv (l := l) h
      exact ⟨e', by simp [h1], h2⟩
    · rw [hb] at h
      simp only [cond_true, Nat.testBit_or, Bool.or_eq_true] at h
      rcases h with h | h | h
      · refine ⟨e, by simp, hb, .inl ?_⟩
        rw [Nat.one_shiftLeft, Nat.testBit_two_pow] at h
        have : e.on = i := by simpa using h
        exact this.symm
      · exact ⟨e, by simp, hb, .inr h⟩
      · obtain ⟨e', h1, h2⟩ := waitsFor_inv (l := l) h
        exact ⟨e', by simp [h1], h2⟩
theorem look_footT {st : St} {i : Nat} {v : GV} : ∀ {ts : List Tmp}, look (footT st ts) i = some v → look st.t i = some v
  | [], h => by simp [footT, look] at h
  | t :: ts, h => by
    simp only [footT] at h
    split at h
    · rename_i u hu
      rw [look_cons] at h
      by_cases e : i = t
      · rw [if_pos e] at h; rw [e, ← h]; exact hu
      · rw [if_neg e] at h; exact look_footT h
    · exact look_footT h
theorem look_footH' {h : List (Nat × Ob)} {q : Nat} {o : Ob} : ∀ {l : List Nat}, look (footH h l) q = some o → look h q = some o
  | [], hh => by simp [footH, look] at hh
  | x :: l, hh => by
    simp only [footH] at hh
    split at hh
    · rename_i u hu
      rw [look_cons] at hh
      by_cases e : q = x
      · rw [if_pos e] at hh; rw [e, ← hh]; exact hu
      · rw [if_neg e] at hh; exact look_footH' hh
    · exact look_footH' hh
theorem foot_sub (st : St) (ts : List Tmp) : Sub st (foot st ts) :=
  ⟨fun i v hv => ⟨v, [], look_footT hv, rfl⟩, fun q o ho => ⟨o, [], look_footH' ho, rfl⟩⟩
def foldR (F : List (Rec × St)) (S : St) : St := F.foldl (fun S x => x.1.upd S) S
def recAt (F : List (Rec × St)) (i : Nat) : Rec × St := F.getD i (⟨none, .any, .none⟩, ⟨[], []⟩)
theorem foldL_all {F : List (Rec × St)} {S : St} : ∀ (i : Nat), i ≤ F.length → foldL (fun k => (recAt F k).1) (fun _ => true) (List.range i) S = foldR (F.take i) S
  | 0, _ => by simp [foldL, foldR]
  | i + 1, h => by
    rw [List.range_succ, foldL_append, foldL_all i (by omega)]
    have hi : i < F.length := by omega
    have : F.take (i + 1) = F.take i ++ [recAt F i] := by
      rw [List.take_add_one]
      simp [recAt, List.getD_eq_getElem?_getD, hi]
    rw [this]
    simp [foldL, foldR]
structure FactAt (P : Program) (E : Env) (tB : TypeId) (W0 : World) (n : Nat) (ops : Array Oper) (st0 : St) (F : List (Rec × St)) (T : List Nat) (i : Nat) (x : Rec × St) (p : Nat) (o : Oper) : Prop where
  dst : x.1.dst = o.dst ∧ okDst n o.dst = true
  edges : ∀ e, e ∈ o.after → bindsAny e = true → e.on < i
  tab : p = waitsFor (T.take i) o.after.toList
  sub : Sub (foldR (F.take i) st0) x.2
  meet : ∀ (j : Nat) y, (F.take i)[j]? = some y → Nat.testBit p j = false → Apart y.1 x.1 ∧ Free y.1 x.2 ∧ Free x.1 y.2
  does : ∀ S, Sub S x.2 → ∀ {X : Cx} {I : Mem} {μ : Locs} {a : Act} {w : World}, X.E = E → X.tB = tB → X.W0 = W0 → RowsOk μ → Sim X n I μ S a w →
    (Region.wanted o (yielded ops a.tmps) = true ∧ Upon P o a w fun v w' => ∃ J ν, NewI X I J ∧ (RowsOk ν ∧ Keep μ ν) ∧ Sim X n J ν (x.1.del.app S) a w' ∧ RepG J ν x.1.v v) ∨
    (Region.wanted o (yielded ops a.tmps) = false ∧ x.1.v = .pv .gone ∧ x.1.del = .none)
def Facts (P : Program) (E : Env) (tB : TypeId) (W0 : World) (n : Nat) (ops : Array Oper) (st0 : St) (F : List (Rec × St)) (T : List Nat) : Prop :=
  ∀ (i : Nat) x p o, F[i]? = some x → T[i]? = some p → ops[i]? = some o → FactAt P E tB W0 n ops st0 F T i x p o
theorem Facts.snoc {n : Nat} {ops : Array Oper} {st0 : St} {F : List (Rec × St)} {T : List Nat} (h : Facts P E tB W0 n ops st0 F T) {k : Nat} (hF : F.length = k) (hT : T.length = k) {x : Rec × St} {p : Nat} {o : Oper} (ho : ops[k]? = some o) (hx : FactAt P E tB W0 n ops st0 F T k x p o) :
    Facts P E tB W0 n ops st0 (F ++ [x]) (T ++ [p]) := by
  intro i y q o' hy hq ho'
  by_cases e : i < k
  · rw [List.getElem?_append_left (by omega)] at hy hq
    have := h i y q o' hy hq ho'
    exact ⟨this.dst, this.edges, by rw [List.take_append_of_le_length (by omega)]; exact this.tab, by rw [List.take_append_of_le_length (by omega)]; exact this.sub, by rw [List.take_append_of_le_length (by omega)]; exact this.meet, this.does⟩
  · have hi : i = k := by
      have := (List.getElem?_eq_some_iff.1 hy).1
      simp at this
      omega
    subst hi
    rw [List.getElem?_append_right (by omega)] at hy hq
    simp [hF] at hy
    simp [hT] at hq
    subst hy hq
    rw [ho] at ho'
    injection ho' with ho'
    subst ho'
    exact ⟨hx.dst, hx.edges, by rw [List.take_append_of_le_length (by omega)]; exact hx.tab, by rw [List.take_append_of_le_length (by omega)]; exact hx.sub, by rw [List.take_append_of_le_length (by omega)]; exact hx.meet, hx.does⟩
theorem evDraw_inv (hE : EnvOk P E tB) {ρ : FuncId → Option (Callee R)} (hρ : RhoOk P E tB W0 ρ) {n : Nat} {ops : Array Oper} {st0 : St} : ∀ {l : List Oper} {k : Nat} {tab : List Nat} {st : St} {recs : List (Rec × St)} {K : St → Option R}, l = ops.toList.drop k → k ≤ ops.size → recs.length = k → tab.length = k →
    Facts P E tB W0 n ops st0 recs tab → Eqv st (foldR recs st0) → evDraw E n ρ ops.toList l k tab st recs K = some r →
    ∃ st' F T, K st' = some r ∧ F.length = ops.size ∧ T.length = ops.size ∧ Facts P E tB W0 n ops st0 F T ∧ Eqv st' (foldR F st0)
  | [], k, tab, st, recs, K, hl, hks, hr, ht, hf, he, h => by
    have hk : ops.size ≤ k := by
      have := congrArg List.length hl
      simp at this
      omega
    exact ⟨st, recs, tab, h, by omega, by omega, hf, he⟩
  | o :: l, k, tab, st, recs, K, hl, hks, hr, ht, hf, he, h => by
    have hkl : k < ops.size := by
      rcases Nat.lt_or_ge k ops.size with h' | h'
      · exact h'
      · rw [List.drop_eq_nil_of_le (by simpa using h')] at hl; cases hl
    have hdrop : ops.toList.drop k = ops.toList[k] :: ops.toList.drop (k + 1) := by rw [List.drop_eq_getElem_cons (by simpa using hkl)]
    rw [hdrop] at hl
    injection hl with ho hl
    have ho' : ops[k]? = some o := by rw [ho]; simp [hkl]
    simp only [evDraw] at h
    cases hc : okDst n o.dst && edgesOk k o.after.toList
    · rw [hc] at h; exact absurd h (by simp)
    · simp only [hc, cond_true] at h
      simp only [Bool.and_eq_true] at hc
      have hedge : ∀ e, e ∈ o.after → bindsAny e = true → e.on < k := by
        intro e he' hb
        have := (List.all_eq_true.1 hc.2) e (by simpa using he')
        simp only [Bool.or_eq_true, Bool.not_eq_true', Nat.blt_eq] at this
        rcases this with z | z
        · have hb' : Region.binds .any e = true := hb
          rw [z] at hb'; cases hb'
        · exact z
      -- one record more
      have go : ∀ {st1 : St} {v : GV} {D : Delta} {s : St}, Eqv st1 st → Sub st1 s → (∀ S, Sub S s → ∀ {X : Cx} {I : Mem} {μ : Locs} {a : Act} {w : World}, X.E = E → X.tB = tB → X.W0 = W0 → RowsOk μ → Sim X n I μ S a w →
            (Region.wanted o (yielded ops a.tmps) = true ∧ Upon P o a w fun x w' => ∃ J ν, NewI X I J ∧ (RowsOk ν ∧ Keep μ ν) ∧ Sim X n J ν (D.app S) a w' ∧ RepG J ν v x) ∨ (Region.wanted o (yielded ops a.tmps) = false ∧ v = .pv .gone ∧ D = .none)) →
          (bif meetOk (waitsFor tab o.after.toList) ⟨o.dst, v, D⟩ s 0 recs then evDraw E n ρ ops.toList l (k + 1) (tab ++ [waitsFor tab o.after.toList]) ((⟨o.dst, v, D⟩ : Rec).upd st1) (recs ++ [(⟨o.dst, v, D⟩, s)]) K else none) = some r →
          ∃ st' F T, K st' = some r ∧ F.length = ops.size ∧ T.length = ops.size ∧ Facts P E tB W0 n ops st0 F T ∧ Eqv st' (foldR F st0) := by
        intro st1 v D s he1 hsub hdoes h
        cases hm : meetOk (waitsFor tab o.after.toList) ⟨o.dst, v, D⟩ s 0 recs
        · rw [hm] at h; exact absurd h (by simp)
        · simp only [hm, cond_true] at h
          refine evDraw_inv hE hρ (recs := recs ++ [(⟨o.dst, v, D⟩, s)]) hl hkl (by simp [hr]) (by simp [ht]) (hf.snoc hr ht ho' ⟨⟨rfl, hc.1⟩, hedge, ?_, ?_, ?_, hdoes⟩) ?_ h
          · rw [List.take_of_length_le (by omega)]
          · rw [List.take_of_length_le (by omega)]
            exact hsub.of_eqv (he1.trans he)
          · rw [List.take_of_length_le (by omega)]
            intro j y hy hp
            exact meetOk_inv hm j y hy (by rw [Nat.zero_add]; exact hp)
          · simp only [foldR, List.foldl_append, List.foldl_cons, List.foldl_nil]
            exact (he1.trans he).upd _
      split at h
      · rename_i hg
        obtain ⟨v, D, h, hd⟩ := evRec_inv hE hρ (okDst_lt hc.1) h
        exact go (Eqv.refl st) (foot_sub st _) (fun S hS {X I μ a w} hX hB hW hr' hs => .inl ⟨by simp [Region.wanted, hg], hd S hS hX hB hW hr' hs⟩) h
      · rename_i g hg
        split at h
        · rename_i t htt
          split at h
          · rename_i hu
            have hgone := isUndef_inv hu
            refine go (Eqv.refl st) (foot_sub st _) (fun S hS {X I μ a w} hX hB hW hr' hs => .inr ⟨?_, rfl, rfl⟩) h
            have hlt : look st.t t = some (.pv .gone) := by
              unfold St.get at hgone
              cases hl' : look st.t t with
              | none => rw [hl'] at hgone; cases hgone
              | some u => rw [hl'] at hgone; exact congrArg some hgone
            have h2 : look (foot st [t]).t t = some (.pv .gone) := by
              simp only [foot, footT, hlt, look_cons, if_true]
            have h3 := (hs.sub hS).t t _ h2
            simp only [Region.wanted, hg, yielded_gone rfl htt (rep_gone h3)]
            simp
          obtain ⟨b, st1, h, hb, hst⟩ := splitB_inv h
          have hlt : look st1.t t = some (.pv (.bool b)) := by
            rcases hst with rfl | ⟨t', ht', rfl⟩
            · have hb' : st1.get t = .pv (.bool b) := hb
              unfold St.get at hb'
              cases hl' : look st1.t t with
              | none => rw [hl'] at hb'; cases hb'
              | some u => rw [hl'] at hb'; exact congrArg some hb'
            · injection ht' with ht'
              subst ht'
              simp only [St.put, look_cons, if_true]
          have heq : Eqv st1 st := by
            rcases hst with rfl | ⟨t', ht', rfl⟩
            · exact Eqv.refl _
            · injection ht' with ht'
              subst ht'
              refine ⟨fun i => ?_, fun q => rfl⟩
              simp only [St.put, look_cons]
              by_cases e : i = t
              · rw [if_pos e, e]
                have hb' : st.get t = .pv (.bool b) := hb
                unfold St.get at hb'
                cases hl' : look st.t t with
                | none => rw [hl'] at hb'; cases hb'
                | some u => rw [hl'] at hb'; exact (congrArg some hb').symm
              · rw [if_neg e]
          have hsees : ∀ (ts : List Tmp) S, Sub S (foot st1 (t :: ts)) → ∀ {X : Cx} {I : Mem} {μ : Locs} {a : Act} {w : World}, Sim X n I μ S a w → yielded ops a.tmps g.1 = some b := by
            intro ts S hS X I μ a w hs
            have h1 := hs.sub hS
            have h2 : look (foot st1 (t :: ts)).t t = some (.pv (.bool b)) := by
              simp only [foot, footT, hlt, look_cons, if_true]
            have h3 := h1.t t _ h2
            exact yielded_eq rfl htt (rep_bool h3)
          split at h
          · rename_i hbg
            obtain ⟨v, D, h, hd⟩ := evRec_inv hE hρ (okDst_lt hc.1) h
            refine go heq (foot_sub st1 _) (fun S hS {X I μ a w} hX hB hW hr' hs => .inl ⟨?_, hd S hS hX hB hW hr' hs⟩) h
            have e : b = g.2 := by simpa using hbg
            simp only [Region.wanted, hg, hsees _ S hS hs, e]
            simp
          · rename_i hbg
            refine go heq (foot_sub st1 _) (fun S hS {X I μ a w} hX hB hW hr' hs => .inr ⟨?_, rfl, rfl⟩) h
            have e : ¬ b = g.2 := by simpa using hbg
            simp only [Region.wanted, hg, hsees _ S hS hs]
            simp [e]
        · cases h
theorem draw_wp (hE : EnvOk P E tB) {ρ : FuncId → Option (Callee R)} (hρ : RhoOk P E tB W0 ρ) {n id : Nat} {ops : Array Oper} {st : St} {K : St → Option R} (h : evDraw E n ρ ops.toList ops.toList 0 [] st [] K = some r) :
    ∃ st', K st' = some r ∧ ∀ {X : Cx} {I : Mem} {μ : Locs} {a : Act} {w : World} {Q : Exit → Act → World → Prop}, X.E = E → X.tB = tB → X.W0 = W0 → RowsOk μ → Sim X n I μ st a w →
      Then E tB W0 X n I μ st' (Q .normal) → (Code.region id ops true).wp P Q a w := by
  obtain ⟨st', F, T, h1, hF, hT, hf, he⟩ := evDraw_inv (P := P) (tB := tB) (W0 := W0) (st0 := st) hE hρ (by simp) (Nat.zero_le _) rfl rfl (fun i x p o hx => by simp at hx) (Eqv.refl st) h
  refine ⟨st', h1, fun {X I μ a w Q} hX hB hW hr hs hQ => ?_⟩
  -- by number
  have at' : ∀ i, i < ops.size → ∃ x p o, recAt F i = x ∧ T[i]? = some p ∧ ops[i]? = some o ∧ FactAt P E tB W0 n ops st F T i x p o := by
    intro i hi
    have e1 : F[i]? = some F[i] := by simp [show i < F.length by omega]
    have e2 : T[i]? = some T[i] := by simp [show i < T.length by omega]
    have e3 : ops[i]? = some ops[i] := by simp [hi]
    exact ⟨F[i], T[i], ops[i], by simp [recAt, List.getD_eq_getElem?_getD, show i < F.length by omega], e2, e3, hf i _ _ _ e1 e2 e3⟩
  refine wp_region_any hE.mixed ?_
  refine orders (n := n) (X := X) (c := fun k => (recAt F k).1) (s := fun k => (recAt F k).2) (st0 := st) (pre := fun i k => Nat.testBit (T.getD k 0) i = true) (I := I) (μ := μ) ?_ ?_ ?_ ?_ ?_ ?_ ops.size _ I μ a _ (by simp) ?_ (NewI.refl X I) hr (Keep.refl μ) ?_ ?_
  · intro k o ho e hem hb
    have hk : k < ops.size := (Array.getElem?_eq_some_iff.1 ho).1
    obtain ⟨x, p, o', _, _, h3, h4⟩ := at' k hk
    rw [ho] at h3
    injection h3 with h3
    subst h3
    exact h4.edges e hem hb
  · intro L hcl hlt i k
    induction k using Nat.strongRecOn with
    | _ k ih =>
      intro hk hp
      obtain ⟨x, p, o, _, h2, h3, h4⟩ := at' k (hlt k hk)
      have hp' : Nat.testBit p i = true := by
        rw [List.getD_eq_getElem?_getD, h2] at hp
        exact hp
      rw [h4.tab] at hp'
      obtain ⟨e, e1, e2, e3⟩ := waitsFor_inv hp'
      have hem : e ∈ o.after := by simpa using e1
      have hlt' := h4.edges e hem e2
      have hL := hcl k o hk h3 e hem e2
      rcases e3 with rfl | e3
      · exact hL
      · refine ih e.on hlt' hL ?_
        have : (T.take k).getD e.on 0 = T.getD e.on 0 := by
          simp only [List.getD_eq_getElem?_getD, List.getElem?_take, hlt', if_true]
        rw [← this]
        exact e3
  · intro i k hik hk hp
    obtain ⟨x, p, o, h1', h2, h3, h4⟩ := at' k hk
    have hp' : Nat.testBit p i = false := by
      rw [List.getD_eq_getElem?_getD, h2] at hp
      simpa using hp
    have hi : (F.take k)[i]? = some (recAt F i) := by
      rw [List.getElem?_take, if_pos hik]
      simp [recAt, List.getD_eq_getElem?_getD, show i < F.length by omega]
    rw [h1']
    exact h4.meet i _ hi hp'
  · intro i hi
    obtain ⟨x, p, o, h1', h2, h3, h4⟩ := at' i hi
    rw [foldL_all i (by omega)]
    simp only [h1']
    exact h4.sub
  · intro i hi S J ν a' w' m1 m2 m3 m4 hS K' hK
    obtain ⟨x, p, o, h1', h2, h3, h4⟩ := at' i hi
    simp only [h1'] at hS hK
    rcases h4.does S hS hX hB hW m2 m4 with ⟨q1, q2⟩ | ⟨q1, q2, q3⟩
    · refine q2.wpOp h3 q1 ?_
      rintro v w2 ⟨L, κ, n1, ⟨n2, n2'⟩, n3, n4⟩
      refine hK L κ _ w2 (m1.trans n1) n2 (m3.trans n2') ?_
      rw [← h4.dst.1]
      exact n3.put n4 (by rw [h4.dst.1]; exact h4.dst.2)
    · refine wpOp_skip h3 q1 (hK J ν _ w' m1 m2 m3 ?_)
      have e : Eqv (S.put x.1.dst x.1.v) (x.1.upd S) := by
        have hnil : Eqv S (x.1.del.app S) := by
          rw [q3]
          exact ⟨fun i => by rw [Delta.look_t]; cases look S.t i <;> rfl, fun q => by rw [Delta.look_h]; simp only [Delta.none, look, Option.none_or, List.not_mem_nil, or_self, if_false]; cases look S.h q <;> rfl⟩
        unfold Rec.upd
        cases x.1.dst with
        | none => exact hnil
        | some d =>
          refine ⟨fun i => ?_, hnil.2⟩
          simp only [St.put, look_cons]
          rw [hnil.1 i]
      refine Sim.eqv ?_ e
      rw [← h4.dst.1, q2]
      exact m4.put RepP.gone (by rw [h4.dst.1]; exact h4.dst.2)
  · intro J ν a' w' m1 m2 m3 m4
    rw [foldL_all ops.size (by omega), List.take_of_length_le (by omega)] at m4
    exact hQ J ν a' w' m1 m2 m3 (m4.eqv he.symm)
  · intro k o hk _
    have : (Array.replicate ops.size false).getD k false = true := hk
    simp [Array.getD] at this
  · rw [foldL_congr (L' := fun _ => false) st (fun k hk => by simp [Array.getD])]
    have hno : ∀ (l : List Nat) (S : St), foldL (fun k => (recAt F k).1) (fun _ => false) l S = S := by
      intro l
      induction l with
      | nil => intro S; rfl
      | cons k l ih => intro S; simp only [foldL, Bool.false_eq_true, if_false]; exact ih S
    rw [hno]
    exact hs.drew
  · refine Nat.le_trans (List.length_filter_le _ _) (by simp)
end
end Go.Dip
end
/- An ideal semantics of the model's code, part 28: code. -/
section
set_option linter.unusedVariables false
set_option linter.unusedSimpArgs false
namespace Go.Dip
section
variable {R : Type} {r : R} {P : Program} {E : Env} {tB : TypeId} {W0 : World}
def Good (E : Env) (tB : TypeId) (W0 : World) (X : Cx) (n : Nat) (I : Mem) (μ : Locs) (K : Exit → St → Option R) (r : R) (Q : Exit → Act → World → Prop) : Prop :=
  ∀ e st, K e st = some r → Then E tB W0 X n I μ st (Q e)
theorem Then.later {X : Cx} {n : Nat} {I J : Mem} {μ ν : Locs} {st : St} {F : Act → World → Prop} (h : Then E tB W0 X n I μ st F) (hI : NewI X I J) (hk : Keep μ ν) : Then E tB W0 X n J ν st F :=
  fun L κ a w h1 h2 h3 h4 => h L κ a w (hI.trans h1) h2 (hk.trans h3) h4
theorem Good.later {X : Cx} {n : Nat} {I J : Mem} {μ ν : Locs} {K : Exit → St → Option R} {Q : Exit → Act → World → Prop} (h : Good E tB W0 X n I μ K r Q) (hI : NewI X I J) (hk : Keep μ ν) : Good E tB W0 X n J ν K r Q :=
  fun e st hK => (h e st hK).later hI hk
def Weak (E : Env) (S s : St) : Prop := ∀ {X : Cx} {n : Nat} {I : Mem} {μ : Locs} {a : Act} {w : World}, X.E = E → RowsOk μ → Sim X n I μ S a w → ∃ J ν, NewI X I J ∧ (RowsOk ν ∧ Keep μ ν) ∧ Sim X n J ν s a w
theorem Sub.weak {E : Env} {S s : St} (h : Sub S s) : Weak E S s := fun {X n I μ a w} _ hr hs => ⟨I, μ, NewI.refl X I, ⟨hr, Keep.refl μ⟩, hs.sub h⟩
theorem Weak.refl (E : Env) (S : St) : Weak E S S := fun {X n I μ a w} _ hr hs => ⟨I, μ, NewI.refl X I, ⟨hr, Keep.refl μ⟩, hs⟩
theorem Weak.trans {E : Env} {a b c : St} (h : Weak E a b) (k : Weak E b c) : Weak E a c := by
  intro X n I μ act w hX hr hs
  obtain ⟨J, ν, h1, ⟨hr', hk⟩, h2⟩ := h hX hr hs
  obtain ⟨L, κ, k1, ⟨kr, kk⟩, k2⟩ := k hX hr' h2
  exact ⟨L, κ, h1.trans k1, ⟨kr, hk.trans kk⟩, k2⟩
abbrev Wrap (R : Type) := St → (Exit → St → Option R) → Option R
def LoopOk (P : Program) (E : Env) (tB : TypeId) (W0 : World) (n : Nat) (c : Code) (L : Wrap R) : Prop :=
  ∀ st K r, L st K = some r → ∀ {X : Cx} {I : Mem} {μ : Locs} {a : Act} {w : World} {Q : Exit → Act → World → Prop}, X.E = E → X.tB = tB → X.W0 = W0 → RowsOk μ → Sim X n I μ st a w → Good E tB W0 X n I μ K r Q → (Code.loop c).wp P Q a w
def CutOk (E : Env) (n : Nat) (ρ : FuncId → Option (Callee R)) (Λ : Nat → Option (Wrap R)) (b : Code) (J : Wrap R) : Prop :=
  ∀ st K r, J st K = some r → ∃ (st0 : St) (M : Exit → St → St), Weak E st st0 ∧ (∀ e st', Weak E st' (M e st')) ∧ exec E n ρ Λ b st0 (fun e st' => K e (M e st')) = some r
theorem exec_sound (hE : EnvOk P E tB) {ρ : FuncId → Option (Callee R)} (hρ : RhoOk P E tB W0 ρ) {n : Nat} {Λ : Nat → Option (Wrap R)} : ∀ (c : Code) {st : St} {K : Exit → St → Option R}, (∀ c', c' ∈ loops c → ∀ L, Λ (2 * fr c') = some L → LoopOk P E tB W0 n c' L) →
    (∀ b, b ∈ seconds c → ∀ J, Λ (2 * fr b + 1) = some J → CutOk E n ρ Λ b J) → exec E n ρ Λ c st K = some r →
    ∀ {X : Cx} {I : Mem} {μ : Locs} {a : Act} {w : World} {Q : Exit → Act → World → Prop}, X.E = E → X.tB = tB → X.W0 = W0 → RowsOk μ → Sim X n I μ st a w → Good E tB W0 X n I μ K r Q → c.wp P Q a w := by
  intro c
  induction c with
  | skip =>
    intro st K _ _ h X I μ a w Q hX hB hW hr hs hG
    exact wp_skip (hG _ _ h I μ a w (NewI.refl X I) hr (Keep.refl μ) hs)
  | region id ops draw =>
    intro st K _ _ h X I μ a w Q hX hB hW hr hs hG
    cases draw with
    | false =>
      simp only [exec] at h
      obtain ⟨st', h1, h2⟩ := evOps_inv (P := P) (tB := tB) (W0 := W0) (k := 0) hE hρ (by simp) h
      refine wp_region ?_
      have := h2 (Q := Q) hX hB hW hr hs (hG _ _ h1)
      rw [Nat.sub_zero, ← List.range_eq_range'] at this
      exact this
    | true =>
      simp only [exec] at h
      obtain ⟨st', h1, h2⟩ := draw_wp (P := P) (tB := tB) (W0 := W0) (id := id) hE hρ h
      subst hX
      obtain ⟨J, hJ, hs'⟩ := hs.freezeAll (argRows ρ st ops.toList)
      exact h2 (Q := Q) rfl hB hW hr hs' ((hG _ _ h1).later hJ (Keep.refl μ))
  | seq x y ihx ihy =>
    intro st K hL hC h X I μ a w Q hX hB hW hr hs hG
    simp only [exec] at h
    refine wp_seq (ihx (fun c' hc => hL c' (by simp [loops, hc])) (fun b hb => hC b (by simp [seconds, hb])) h hX hB hW hr hs ?_)
    intro e st' hK
    have hby : ∀ {st1 : St} {M : Exit → St → St}, Weak E st' st1 → (∀ e st', Weak E st' (M e st')) → exec E n ρ Λ y st1 (fun e st' => K e (M e st')) = some r → Then E tB W0 X n I μ st' (y.wp P Q) := by
      intro st1 M hsub hM hy J ν a' w' m1 m2 m3 m4
      obtain ⟨L, κ0, q1, ⟨qr, qk⟩, q2⟩ := hsub hX m2 m4
      refine ihy (fun c' hc => hL c' (by simp [loops, hc])) (fun b hb => hC b (by simp [seconds, hb])) hy hX hB hW qr q2 ?_
      have hG' := hG.later (m1.trans q1) (m3.trans qk)
      intro e st2 hK2 J2 κ a2 w2 n1 n2 n3 n4
      obtain ⟨L2, κ2, q3, ⟨q5, q6⟩, q4⟩ := hM e st2 hX n2 n4
      exact hG' e _ hK2 L2 κ2 a2 w2 (n1.trans q3) q5 (n3.trans q6) q4
    have hself : Weak E st' st' := Weak.refl E st'
    cases e with
    | normal =>
      simp only at hK
      split at hK
      · rename_i J hJ
        obtain ⟨st0, M, h1, hM, h2⟩ := hC y (by simp [seconds]) J hJ st' K r hK
        exact hby h1 hM h2
      · exact hby (M := fun _ st => st) hself (fun _ st => Weak.refl E st) hK
    | _ => exact hG _ _ hK
  | cond c x y ihx ihy =>
    intro st K hL hC h X I μ a w Q hX hB hW hr hs hG
    simp only [exec] at h
    obtain ⟨b, st1, h, hb, hst⟩ := splitB_inv h
    obtain ⟨hs1, hv⟩ := hs.split hb hst
    cases b with
    | true => exact wp_cond_true hv (ihx (fun c' hc => hL c' (by simp [loops, hc])) (fun b hb => hC b (by simp [seconds, hb])) h hX hB hW hr hs1 hG)
    | false => exact wp_cond_false hv (ihy (fun c' hc => hL c' (by simp [loops, hc])) (fun b hb => hC b (by simp [seconds, hb])) h hX hB hW hr hs1 hG)
  | block id x ih =>
    intro st K hL hC h X I μ a w Q hX hB hW hr hs hG
    simp only [exec] at h
    refine wp_block (ih (fun c' hc => hL c' (by simp [loops, hc])) (fun b hb => hC b (by simp [seconds, hb])) h hX hB hW hr hs ?_)
    intro e st' hK
    cases e with
    | exit j =>
      simp only [nbeq] at hK
      by_cases hj : j = id
      · simp only [hj, decide_true, cond_true] at hK
        subst hj
        have := hG _ _ hK
        intro J ν a' w' m1 m2 m3 m4
        simp only [Exit.inBlock, if_true]
        exact this J ν a' w' m1 m2 m3 m4
      · simp only [hj, decide_false, cond_false] at hK
        have := hG _ _ hK
        intro J ν a' w' m1 m2 m3 m4
        simp only [Exit.inBlock, hj, if_false]
        exact this J ν a' w' m1 m2 m3 m4
    | _ => exact hG _ _ hK
  | loop x ih =>
    intro st K hL hC h X I μ a w Q hX hB hW hr hs hG
    simp only [exec] at h
    split at h
    · rename_i L hLL
      exact hL x (by simp [loops]) L hLL st K r h hX hB hW hr hs hG
    · cases h
  | exit id =>
    intro st K _ _ h X I μ a w Q hX hB hW hr hs hG
    exact wp_exit (hG _ _ h I μ a w (NewI.refl X I) hr (Keep.refl μ) hs)
  | scope x ih =>
    intro st K hL hC h X I μ a w Q hX hB hW hr hs hG
    simp only [exec] at h
    refine wp_scope_straight (ih (fun c' hc => hL c' (by simpa [loops] using hc)) (fun b hb => hC b (by simpa [seconds] using hb)) h hX hB hW hr hs ?_)
    intro e st' hK
    cases e with
    | goto l => cases hK
    | _ => exact hG _ _ hK
  | label l =>
    intro st K _ _ h X I μ a w Q hX hB hW hr hs hG
    exact wp_label (hG _ _ h I μ a w (NewI.refl X I) hr (Keep.refl μ) hs)
  | ret =>
    intro st K _ _ h X I μ a w Q hX hB hW hr hs hG
    exact wp_ret (hG _ _ h I μ a w (NewI.refl X I) hr (Keep.refl μ) hs)
  | _ =>
    intro st K _ _ h
    simp [exec] at h
theorem loop_ok (hE : EnvOk P E tB) {n : Nat} {c : Code} {X : Nat → Wrap R} {ρ : Nat → FuncId → Option (Callee R)} {Λ : Nat → Nat → Option (Wrap R)} (h0 : ∀ st K, X 0 st K = none)
    (hs : ∀ k st K r, X (k + 1) st K = some r → ∃ (st0 : St) (M : Exit → St → St), Weak E st st0 ∧ (∀ e st', Weak E st' (M e st')) ∧ exec E n (ρ k) (Λ k) c st0 (fun e st' => match e with | .normal => X k st' K | e => K e (M e st')) = some r) :
    ∀ k, (∀ j, j < k → RhoOk P E tB W0 (ρ j) ∧ (∀ c', c' ∈ loops c → ∀ L, Λ j (2 * fr c') = some L → LoopOk P E tB W0 n c' L) ∧ (∀ b, b ∈ seconds c → ∀ J, Λ j (2 * fr b + 1) = some J → CutOk E n (ρ j) (Λ j) b J)) → LoopOk P E tB W0 n c (X k) := by
  have rounds : ∀ k, (∀ j, j < k → RhoOk P E tB W0 (ρ j) ∧ (∀ c', c' ∈ loops c → ∀ L, Λ j (2 * fr c') = some L → LoopOk P E tB W0 n c' L) ∧ (∀ b, b ∈ seconds c → ∀ J, Λ j (2 * fr b + 1) = some J → CutOk E n (ρ j) (Λ j) b J)) →
      ∀ st K r, X k st K = some r → ∀ {Y : Cx} {I : Mem} {μ : Locs} {a : Act} {w : World} {Q : Exit → Act → World → Prop}, Y.E = E → Y.tB = tB → Y.W0 = W0 → RowsOk μ → Sim Y n I μ st a w → Good E tB W0 Y n I μ K r Q → Code.rounds P c Q k a w := by
    intro k
    induction k with
    | zero => intro _ st K r h; rw [h0] at h; cases h
    | succ k ih =>
      intro hk st K r h Y I μ a w Q hX hB hW hr hsim hG
      obtain ⟨st0, M, h1, hM, h2⟩ := hs k st K r h
      obtain ⟨k1, k2, k3⟩ := hk k (by omega)
      rw [rounds_succ]
      obtain ⟨J0, ν0, q1, ⟨qr, qk⟩, q2⟩ := h1 hX hr hsim
      refine exec_sound hE k1 c k2 k3 h2 hX hB hW qr q2 ?_
      replace hG := hG.later q1 qk
      intro e st' hK
      cases e with
      | normal =>
        intro J ν a' w' m1 m2 m3 m4
        exact ih (fun j hj => hk j (by omega)) st' K r hK hX hB hW m2 m4 (hG.later m1 m3)
      | _ =>
        intro J ν a' w' m1 m2 m3 m4
        obtain ⟨L, κ, q3, ⟨q5, q6⟩, q4⟩ := hM _ st' hX m2 m4
        exact hG _ _ hK L κ a' w' (m1.trans q3) q5 (m3.trans q6) q4
  intro k hk st K r h Y I μ a w Q hX hB hW hr hsim hG
  exact wp_loop_rounds k (rounds k hk st K r h hX hB hW hr hsim hG)
end
end Go.Dip
end
/- An ideal semantics of the model's code, part 29: what follows is told once: each evaluation is its own value, and what follows. -/
section
set_option linter.unusedVariables false
set_option linter.unusedSimpArgs false
namespace Go.Dip
abbrev Cps (α : Type) := (R : Type) → (α → Option R) → Option R
def IsNat {α : Type} (g : Cps α) : Prop := ∀ R K, g R K = (g α some).bind K
def IsNat2 {α β : Type} (g : (R : Type) → (α → β → Option R) → Option R) : Prop := ∀ R K, g R K = (g (α × β) fun x y => some (x, y)).bind fun p => K p.1 p.2
section
variable {α β γ δ : Type}
theorem IsNat.ret (v : α) : IsNat (fun R K => K v) := fun R K => rfl
theorem IsNat2.ret (v : α) (u : β) : IsNat2 (fun R K => K v u) := fun R K => rfl
theorem IsNat.none : IsNat (α := α) (fun R K => Option.none) := fun R K => rfl
theorem IsNat2.none : IsNat2 (α := α) (β := β) (fun R K => Option.none) := fun R K => rfl
theorem IsNat.bif {g h : Cps α} (b : Bool) (hg : IsNat g) (hh : IsNat h) : IsNat (fun R K => bif b then g R K else h R K) := by cases b; exact hh; exact hg
theorem IsNat2.bif {g h : (R : Type) → (α → β → Option R) → Option R} (b : Bool) (hg : IsNat2 g) (hh : IsNat2 h) : IsNat2 (fun R K => bif b then g R K else h R K) := by cases b; exact hh; exact hg
theorem IsNat.comp {g : Cps α} {h : α → Cps β} (hg : IsNat g) (hh : ∀ x, IsNat (h x)) : IsNat (fun R K => g R fun x => h x R K) := by
  intro R K
  show g R (fun x => h x R K) = (g β fun x => h x β some).bind K
  rw [hg R, hg β, Option.bind_assoc]
  congr 1
  funext x
  exact hh x R K
theorem IsNat.comp2 {g : Cps α} {h : α → (R : Type) → (β → γ → Option R) → Option R} (hg : IsNat g) (hh : ∀ x, IsNat2 (h x)) : IsNat2 (fun R K => g R fun x => h x R K) := by
  intro R K
  show g R (fun x => h x R K) = (g (β × γ) fun x => h x (β × γ) fun x y => some (x, y)).bind fun p => K p.1 p.2
  rw [hg R, hg (β × γ), Option.bind_assoc]
  congr 1
  funext x
  exact hh x R K
theorem IsNat2.comp {g : (R : Type) → (α → β → Option R) → Option R} {h : α → β → Cps γ} (hg : IsNat2 g) (hh : ∀ x y, IsNat (h x y)) : IsNat (fun R K => g R fun x y => h x y R K) := by
  intro R K
  show g R (fun x y => h x y R K) = (g γ fun x y => h x y γ some).bind K
  rw [hg R, hg γ, Option.bind_assoc]
  congr 1
  funext x
  exact hh x.1 x.2 R K
theorem IsNat2.comp2 {g : (R : Type) → (α → β → Option R) → Option R} {h : α → β → (R : Type) → (γ → δ → Option R) → Option R} (hg : IsNat2 g) (hh : ∀ x y, IsNat2 (h x y)) : IsNat2 (fun R K => g R fun x y => h x y R K) := by
  intro R K
  show g R (fun x y => h x y R K) = (g (γ × δ) fun x y => h x y (γ × δ) fun x y => some (x, y)).bind fun p => K p.1 p.2
  rw [hg R, hg (γ × δ), Option.bind_assoc]
  congr 1
  funext x
  exact hh x.1 x.2 R K
end
theorem wP_nat (v : GV) : IsNat (fun R K => wP (R := R) v K) := by intro R K; unfold wP; split <;> rfl
theorem wInt_nat (k : IntKind) (v : GV) : IsNat (fun R K => wInt (R := R) k v K) := (wP_nat v).comp fun x => IsNat.bif _ (.ret _) .none
theorem wStr_nat (v : GV) : IsNat (fun R K => wStr (R := R) v K) := (wP_nat v).comp fun x => IsNat.bif _ (.ret _) .none
theorem wBool_nat (v : GV) : IsNat (fun R K => wBool (R := R) v K) := (wP_nat v).comp fun x => IsNat.bif _ (.ret _) .none
theorem wPure_nat (E : Env) (st : St) (t : TypeId) (x : Operand) : IsNat2 (fun R K => wPure (R := R) E st t x K) := by intro R K; unfold wPure; simp only; split <;> rfl
theorem wPures_nat (E : Env) : ∀ (l : List (TypeId × Operand)) (st : St) (acc : List PV), IsNat2 (fun R K => wPures (R := R) E st l acc K)
  | [], st, acc => .ret _ _
  | x :: l, st, acc => (wPure_nat E st x.1 x.2).comp2 fun v st => wPures_nat E l st (v :: acc)
theorem wCells_nat (E : Env) (t : TypeId) (v : GV) : IsNat (fun R K => wCells (R := R) E t v K) := by
  intro R K
  unfold wCells
  cases isStruct (E.ty t)
  · cases isScalar (E.ty t)
    · rfl
    · simp only [cond_false, cond_true]
      split
      · rename_i x; cases x.isOne <;> rfl
      · rfl
      · rfl
  · simp only [cond_true]
    split
    · rename_i x; cases x.isAgg (E.sz t) <;> rfl
    · rename_i cs; cases Nat.beq cs.length (E.sz t) <;> rfl
    · rfl
theorem wPCells_nat (E : Env) (t : TypeId) (v : PV) : IsNat (fun R K => wPCells (R := R) E t v K) := IsNat.bif _ (IsNat.bif _ (.ret _) .none) (IsNat.bif _ (.ret _) .none)
theorem wElem_nat (E : Env) (t : TypeId) (v : PV) : IsNat (fun R K => wElem (R := R) E t v K) := IsNat.bif _ (IsNat.bif _ (.ret _) .none) (IsNat.bif _ (.ret _) .none)
theorem readP_nat (E : Env) (t : TypeId) (c : Nat) (e : PV) (off : Nat) : IsNat (fun R K => readP (R := R) E t c e off K) := IsNat.bif _ (IsNat.bif _ (.ret _) .none) (IsNat.bif _ (.ret _) .none)
theorem fieldOff_nat (E : Env) (s : TypeId) (f : Nat) : IsNat2 (fun R K => fieldOff (R := R) E s f K) := by
  intro R K
  unfold fieldOff
  split
  · split <;> rfl
  · rfl
theorem wBool?_nat (b : Option Bool) : IsNat (fun R K => wBool? (R := R) b K) := by intro R K; cases b <;> rfl
theorem wEq_nat (E : Env) : ∀ (fs : List (Nat × TypeId)) (x y : PV), IsNat (fun R K => wEq (R := R) E fs x y K)
  | [], x, y => .ret _
  | f :: fs, x, y => by
    intro R K
    simp only [wEq]
    split
    · exact ((wStr_nat _).comp fun a => (wStr_nat _).comp fun b => (wEq_nat E fs x y).comp fun z => .ret _) R K
    · exact ((wInt_nat _ _).comp fun a => (wInt_nat _ _).comp fun b => (wEq_nat E fs x y).comp fun z => .ret _) R K
    · exact ((wBool_nat _).comp fun a => (wBool_nat _).comp fun b => (wEq_nat E fs x y).comp fun z => .ret _) R K
    · rfl
theorem wNil_nat (op : BinOp) (x y : Option Bool) : IsNat (fun R K => wNil (R := R) op x y K) := by
  intro R K
  unfold wNil
  split
  · rename_i a b
    cases a || b
    · rfl
    · simp only [cond_true]
      split <;> rfl
  · rfl
theorem evBin_nat (E : Env) (st : St) (op : BinOp) (t : TypeId) (x y : Operand) : IsNat (fun R K => evBin (R := R) E st op t x y K) := by
  intro R K
  unfold evBin
  split
  · rename_i k _
    revert R K
    refine (wInt_nat _ _).comp fun a => (wInt_nat _ _).comp fun b => ?_
    intro R K
    split <;> first
      | exact (IsNat.bif _ .none (.ret _)) R K
      | (split <;> rfl)
      | exact wBool?_nat _ R K
  · revert R K
    refine (wStr_nat _).comp fun a => (wStr_nat _).comp fun b => ?_
    intro R K
    split <;> first
      | exact (IsNat.bif _ (.ret _) .none) R K
      | exact wBool?_nat _ R K
  · revert R K
    refine (wBool_nat _).comp fun a => (wBool_nat _).comp fun b => ?_
    intro R K
    split <;> rfl
  · rename_i fs _
    revert R K
    refine (wP_nat _).comp fun a => (wP_nat _).comp fun b => ?_
    refine IsNat.bif _ ?_ .none
    intro R K
    split
    · exact ((wEq_nat E fs a b).comp fun z => .ret _) R K
    · exact ((wEq_nat E fs a b).comp fun z => .ret _) R K
    · rfl
  · exact wNil_nat _ _ _ R K
  · revert R K
    refine IsNat.bif _ ?_ .none
    refine (wP_nat _).comp fun a => (wP_nat _).comp fun b => ?_
    refine IsNat.bif _ ?_ .none
    intro R K
    split <;> rfl
  · rfl
theorem wNew_nat (E : Env) (d : Nat) (o : Ob) (st : St) : IsNat (fun R K => wNew (R := R) E d o st K) := IsNat.bif _ (.ret _) .none
theorem evLoad_nat (E : Env) (st : St) (t : TypeId) (a : GV) : IsNat (fun R K => evLoad (R := R) E st t a K) := by
  intro R K
  unfold evLoad
  split
  · split
    · rename_i off cs _
      cases isStruct (E.ty t)
      · cases isScalar (E.ty t)
        · rfl
        · simp only [cond_false, cond_true]
          split <;> rfl
      · exact (IsNat.bif _ (.ret _) .none) R K
    · rfl
  · split
    · exact readP_nat _ _ _ _ _ R K
    · rfl
  · exact readP_nat _ _ _ _ _ R K
  · rfl
theorem evStore_nat (E : Env) (st : St) (t : TypeId) (a : GV) (x : Operand) : IsNat (fun R K => evStore (R := R) E st t a x K) := by
  intro R K
  unfold evStore
  split
  · split
    · exact ((wCells_nat _ _ _).comp fun xs => IsNat.bif _ (.ret _) .none) R K
    · rfl
  · revert R K
    refine (wPure_nat E st t x).comp fun v st => ?_
    intro R K
    split
    · exact (IsNat.bif _ ((wElem_nat _ _ _).comp fun v => .ret _) (IsNat.bif _ ((wPCells_nat _ _ _).comp fun xs => IsNat.bif _ (.ret _) .none) (IsNat.bif _ (.ret _) .none))) R K
    · rfl
  · rfl
theorem wBuild_nat (E : Env) (st : St) (fs : List (Nat × TypeId)) : ∀ (l : List (Nat × Operand)) (cs : List CV), IsNat (fun R K => wBuild (R := R) E st fs l cs K)
  | [], cs => .ret _
  | x :: l, cs => by
    intro R K
    simp only [wBuild]
    split
    · exact ((wCells_nat _ _ _).comp fun xs => wBuild_nat E st fs l _) R K
    · rfl
theorem wParts_nat (E : Env) (e : TypeId) : ∀ (l : List (Nat × Operand)) (st : St) (n : Nat) (acc : List PV), IsNat2 (fun R K => wParts (R := R) E e st l n acc K)
  | [], st, n, acc => IsNat2.bif _ (.ret _ _) .none
  | x :: l, st, n, acc => by
    refine IsNat2.bif _ ?_ .none
    intro R K
    split
    · rfl
    · exact ((wPure_nat E st e x.2).comp2 fun v st => (wElem_nat E e v).comp2 fun v => wParts_nat E e l st _ _) R K
theorem wParts0_nat (E : Env) (e : TypeId) (s : St) : ∀ (l : List (Nat × Operand)) (n : Nat) (acc : List PV), IsNat (fun R K => wParts0 (R := R) E e s l n acc K)
  | [], n, acc => IsNat.bif _ (.ret _) .none
  | x :: l, n, acc => by
    refine IsNat.bif _ ?_ .none
    intro R K
    split
    · rfl
    · split
      · exact ((wElem_nat E e _).comp fun v => wParts0_nat E e s l _ _) R K
      · rfl
theorem wSl_nat (E : Env) (c : Nat) (st : St) (v : GV) : IsNat (fun R K => wSl (R := R) E c st v K) := by
  intro R K
  unfold wSl
  split
  · exact (IsNat.bif _ (.ret _) .none) R K
  · rfl
  · split
    · exact (IsNat.bif _ (.ret _) .none) R K
    · rfl
  · split
    · exact (IsNat.bif _ (.ret _) .none) R K
    · rfl
  · rfl
theorem evConv_nat (E : Env) (d : Nat) (st : St) (s t : TypeId) (x : Operand) : IsNat2 (fun R K => evConv (R := R) E d st s t x K) := by
  intro R K
  unfold evConv
  split
  · exact ((wInt_nat _ _).comp2 fun a => .ret _ _) R K
  · exact ((wStr_nat _).comp2 fun a => .ret _ _) R K
  · exact ((wInt_nat _ _).comp2 fun a => .ret _ _) R K
  · split
    · exact ((wStr_nat _).comp2 fun a => IsNat2.bif _ ((wNew_nat _ _ _ _).comp2 fun st => .ret _ _) .none) R K
    · rfl
  · split
    · exact ((wSl_nat _ _ _ _).comp2 fun a => IsNat2.bif _ (.ret _ _) .none) R K
    · exact ((wSl_nat _ _ _ _).comp2 fun a => IsNat2.bif _ (.ret _ _) .none) R K
    · rfl
  · rfl
theorem wOptInt_nat (st : St) (x : Option Operand) (z : Int) : IsNat (fun R K => wOptInt (R := R) st x z K) := by
  cases x with
  | none => exact .ret _
  | some x => exact wInt_nat _ _
theorem evSlice_nat (E : Env) (st : St) (t : TypeId) (x : Operand) (lo hi : Option Operand) : IsNat (fun R K => evSlice (R := R) E st t x lo hi K) := by
  intro R K
  unfold evSlice
  split
  · exact ((wStr_nat _).comp fun s => (wOptInt_nat _ _ _).comp fun l => (wOptInt_nat _ _ _).comp fun h => IsNat.bif _ (.ret _) .none) R K
  · split
    · exact (IsNat.bif _ ((wOptInt_nat _ _ _).comp fun l => (wOptInt_nat _ _ _).comp fun h => IsNat.bif _ (.ret _) .none) .none) R K
    · split
      · exact (IsNat.bif _ ((wOptInt_nat _ _ _).comp fun l => (wOptInt_nat _ _ _).comp fun h => IsNat.bif _ (.ret _) .none) .none) R K
      · rfl
    · rfl
  · rfl
theorem evAddr_nat (E : Env) (st : St) (s : TypeId) (f : Nat) (v : GV) : IsNat (fun R K => evAddr (R := R) E st s f v K) := by
  refine (fieldOff_nat E s f).comp fun fo ft => ?_
  intro R K
  split
  · split <;> rfl
  · rfl
  · rfl
  · rfl
theorem evField_nat (E : Env) (s : TypeId) (f : Nat) (v : GV) : IsNat (fun R K => evField (R := R) E s f v K) := by
  refine (fieldOff_nat E s f).comp fun fo ft => ?_
  intro R K
  split
  · exact (IsNat.bif _ (IsNat.bif _ (.ret _) (IsNat.bif _ (.ret _) .none)) .none) R K
  · rename_i cs
    revert R K
    refine IsNat.bif _ (IsNat.bif _ (.ret _) .none) ?_
    refine IsNat.bif _ ?_ .none
    intro R K
    split <;> rfl
  · rfl
theorem evIndexAddr_nat (E : Env) (st : St) (t : TypeId) (x i : Operand) : IsNat (fun R K => evIndexAddr (R := R) E st t x i K) := by
  intro R K
  unfold evIndexAddr
  split
  · revert R K
    refine (wInt_nat _ _).comp fun i => ?_
    intro R K
    split
    · exact (IsNat.bif _ (.ret _) .none) R K
    · split
      · exact (IsNat.bif _ (.ret _) .none) R K
      · rfl
    · split
      · exact (IsNat.bif _ (.ret _) .none) R K
      · rfl
    · rfl
  · rfl
theorem evIndex_nat (E : Env) (st : St) (t : TypeId) (x i : Operand) : IsNat (fun R K => evIndex (R := R) E st t x i K) := by
  intro R K
  unfold evIndex
  split
  · exact ((wStr_nat _).comp fun s => (wInt_nat _ _).comp fun i => IsNat.bif _ (.ret _) .none) R K
  · rfl
theorem evLen_nat (E : Env) (st : St) (t : TypeId) (x : Operand) : IsNat (fun R K => evLen (R := R) E st t x K) := by
  intro R K
  unfold evLen
  split
  · exact ((wStr_nat _).comp fun s => .ret _) R K
  · split
    · rfl
    · exact ((wSl_nat _ _ _ _).comp fun s => .ret _) R K
  · rfl
theorem evAppend_nat (E : Env) (d : Nat) (st : St) (t : TypeId) (s x : Operand) (xt : TypeId) : IsNat2 (fun R K => evAppend (R := R) E d st t s x xt K) := by
  intro R K
  unfold evAppend
  split
  · revert R K
    refine (wSl_nat _ _ _ _).comp2 fun xs => ?_
    intro R K
    split
    · split
      · exact (IsNat2.bif _ (.ret _ _) .none) R K
      · rfl
    · exact (IsNat2.bif _ ((wNew_nat _ _ _ _).comp2 fun st => .ret _ _) .none) R K
    · rfl
  · rfl
theorem evMinMax_nat (st : St) (mx : Bool) (t : TK) (xs : List Operand) : IsNat (fun R K => evMinMax (R := R) st mx t xs K) := by
  intro R K
  unfold evMinMax
  split
  · exact ((wInt_nat _ _).comp fun a => (wInt_nat _ _).comp fun b => .ret _) R K
  · exact ((wInt_nat _ _).comp fun a => (wInt_nat _ _).comp fun b => (wInt_nat _ _).comp fun c => .ret _) R K
  · rfl
theorem splitB_nat (st : St) (x : Operand) : IsNat2 (fun R K => splitB (R := R) st x K) := by
  refine (wBool_nat _).comp2 fun b => ?_
  intro R K
  split
  · exact (IsNat2.bif _ (.ret _ _) (.ret _ _)) R K
  · exact (IsNat2.bif _ (.ret _ _) (.ret _ _)) R K
/-! Callees and loops. -/
abbrev RhoF := (R : Type) → FuncId → Option (Callee R)
abbrev LamF := (R : Type) → Nat → Option (Wrap R)
def RhoNat (ρ : RhoF) : Prop := ∀ g, (∀ R, ρ R g = none) ∨ (∃ F : List PV → Cps GV, (∀ R, ρ R g = some (.pure fun vs => F vs R)) ∧ ∀ vs, IsNat (F vs)) ∨
  ∃ F : List GV → List (Nat × Ob) → (R : Type) → (GV → List (Nat × Ob) → Option R) → Option R, (∀ R, ρ R g = some (.heap fun a H => F a H R)) ∧ ∀ a H, IsNat2 (F a H)
def KeyNat (Λ : LamF) (i : Nat) : Prop := (∀ R, Λ R i = none) ∨ ∃ L : (R : Type) → Wrap R, (∀ R, Λ R i = some (L R)) ∧ ∀ st, IsNat2 (fun R K => L R st K)
def LamNat (Λ : LamF) (c : Code) : Prop := (∀ c', c' ∈ loops c → KeyNat Λ (2 * fr c')) ∧ ∀ b, b ∈ seconds c → KeyNat Λ (2 * fr b + 1)
theorem evCalm_nat (E : Env) {ρ : RhoF} (hρ : RhoNat ρ) (o : Oper) (st : St) : IsNat (fun R K => evCalm E (ρ R) o st K) := by
  intro R K
  unfold evCalm
  split
  · rfl
  · split <;> rfl
  · exact ((wBool_nat _).comp fun z => IsNat.bif _ (.ret _) (.ret _)) R K
  · split
    · exact ((wBuild_nat _ _ _ _ _).comp fun cs => .ret _) R K
    · rfl
  · exact evLoad_nat _ _ _ _ R K
  · split <;> rfl
  · exact evBin_nat _ _ _ _ _ _ R K
  · split
    · exact ((wBool_nat _).comp fun z => .ret _) R K
    · exact ((wInt_nat _ _).comp fun z => .ret _) R K
    · rfl
  · split
    · rfl
    · exact ((evConv_nat _ _ _ _ _ _).comp fun v _ => .ret v) R K
  · revert R K
    refine IsNat.bif _ ?_ .none
    intro R K
    split <;> rfl
  · exact evSlice_nat _ _ _ _ _ _ R K
  · exact evAddr_nat _ _ _ _ _ R K
  · exact evField_nat _ _ _ _ R K
  · exact evIndexAddr_nat _ _ _ _ _ R K
  · exact evIndex_nat _ _ _ _ _ R K
  · split
    · split <;> rfl
    · rfl
  · exact (IsNat.bif _ (evLen_nat _ _ _ _) .none) R K
  · exact evMinMax_nat _ _ _ _ R K
  · exact evMinMax_nat _ _ _ _ R K
  · split
    · rename_i g _
      try dsimp only
      rcases hρ g with h | ⟨F, h1, h2⟩ | ⟨F, h1, h2⟩
      · rw [h R, h GV]; rfl
      · rw [h1 R, h1 GV]
        revert R K
        refine IsNat.bif _ ?_ .none
        intro R K
        split
        · exact h2 _ R K
        · rfl
      · rw [h1 R, h1 GV]; rfl
    · rfl
  · rfl
theorem callHeap_nat (E : Env) (d : Nat) (st : St) (args : List GV) {F : List GV → List (Nat × Ob) → (R : Type) → (GV → List (Nat × Ob) → Option R) → Option R} (hF : ∀ a H, IsNat2 (F a H)) : IsNat2 (fun R K => callHeap (R := R) E d st args (fun a H => F a H R) K) := by
  refine IsNat2.bif _ ?_ .none
  refine (hF _ _).comp2 fun v H => ?_
  exact IsNat2.bif _ (IsNat2.bif _ (.ret _ _) .none) .none
theorem callRec_nat (E : Env) (d : Nat) (st : St) (args : List GV) {F : List GV → List (Nat × Ob) → (R : Type) → (GV → List (Nat × Ob) → Option R) → Option R} (hF : ∀ a H, IsNat2 (F a H)) : IsNat2 (fun R K => callRec (R := R) E d st args (fun a H => F a H R) K) := by
  refine IsNat2.bif _ ?_ .none
  refine (hF _ _).comp2 fun v H => ?_
  exact IsNat2.bif _ (IsNat2.bif _ (.ret _ _) .none) .none
theorem calm2 (E : Env) {ρ : RhoF} (hρ : RhoNat ρ) {β : Type} (o : Oper) (st : St) (b : β) : IsNat2 (fun R K => evCalm E (ρ R) o st fun v => K v b) := (evCalm_nat E hρ o st).comp2 fun v => .ret v b
theorem evOp_nat (E : Env) {ρ : RhoF} (hρ : RhoNat ρ) (o : Oper) (st : St) : IsNat2 (fun R K => evOp E (ρ R) o st K) := by
  intro R K
  unfold evOp
  simp only
  split
  · split
    · split
      · exact ((wNew_nat _ _ _ _).comp2 fun st => .ret _ _) R K
      · rfl
    · rfl
  · split
    · exact ((wNew_nat _ _ _ _).comp2 fun st => .ret _ _) R K
    · exact (IsNat2.bif _ (.ret _ _) .none) R K
  · exact (IsNat2.bif _ ((wCells_nat _ _ _).comp2 fun cs => .ret _ _) .none) R K
  · split
    · exact (IsNat2.bif _ ((wParts_nat _ _ _ _ _ _).comp2 fun es st => (wNew_nat _ _ _ _).comp2 fun st => .ret _ _) .none) R K
    · rfl
  · exact ((evStore_nat _ _ _ _ _).comp2 fun st' => .ret _ _) R K
  · exact evConv_nat _ _ _ _ _ _ R K
  · exact (IsNat2.bif _ (evAppend_nat _ _ _ _ _ _ _) .none) R K
  · revert R K
    refine IsNat2.bif _ ?_ .none
    intro R K
    split
    · rename_i g rs _
      try dsimp only
      rcases hρ g with h | ⟨F, h1, h2⟩ | ⟨F, h1, h2⟩
      · rw [h R, h (GV × St)]; rfl
      · rw [h1 R, h1 (GV × St)]
        simp only
        split
        · exact ((wPures_nat _ _ _ _).comp2 fun vs st' => (h2 vs).comp2 fun v => .ret _ _) R K
        · rfl
      · rw [h1 R, h1 (GV × St)]
        exact callHeap_nat E _ st _ h2 R K
    · rfl
  · exact calm2 E hρ o st st R K
theorem evOps_nat (E : Env) (n : Nat) {ρ : RhoF} (hρ : RhoNat ρ) (all : List Oper) : ∀ (l : List Oper) (st : St), IsNat (fun R K => evOps E n (ρ R) all l st K)
  | [], st => .ret _
  | o :: l, st => by
    intro R K
    simp only [evOps]
    revert R K
    refine IsNat.bif _ ?_ .none
    intro R K
    split
    · exact ((evOp_nat E hρ o st).comp fun v st => evOps_nat E n hρ all l _) R K
    · split
      · split
        · exact evOps_nat E n hρ all l _ R K
        revert R K
        refine (splitB_nat _ _).comp fun b st => ?_
        intro R K
        split
        · exact ((evOp_nat E hρ o st).comp fun v st => evOps_nat E n hρ all l _) R K
        · exact evOps_nat E n hρ all l _ R K
      · rfl
theorem evRec_nat (E : Env) {ρ : RhoF} (hρ : RhoNat ρ) (o : Oper) (st : St) : IsNat2 (fun R K => evRec E (ρ R) o st K) := by
  intro R K
  unfold evRec
  simp only
  split
  · split
    · split
      · exact (IsNat2.bif _ .none (.ret _ _)) R K
      · rfl
    · rfl
  · exact (IsNat2.bif _ (.ret _ _) .none) R K
  · exact (IsNat2.bif _ ((wCells_nat _ _ _).comp2 fun cs => IsNat2.bif _ .none (.ret _ _)) .none) R K
  · split
    · exact (IsNat2.bif _ ((wParts0_nat _ _ _ _ _ _).comp2 fun es => .ret _ _) .none) R K
    · rfl
  · split
    · split
      · exact ((wCells_nat _ _ _).comp2 fun xs => IsNat2.bif _ (.ret _ _) .none) R K
      · rfl
    · rfl
  · revert R K
    refine IsNat2.bif _ ?_ .none
    intro R K
    split
    · revert R K
      refine IsNat2.bif _ .none ?_
      refine (wSl_nat _ _ _ _).comp2 fun xs => ?_
      intro R K
      split
      · split
        · exact (IsNat2.bif _ (.ret _ _) .none) R K
        · rfl
      · exact (IsNat2.bif _ (.ret _ _) .none) R K
      · rfl
    · rfl
  · split
    · rename_i g rs _
      try dsimp only
      rcases hρ g with h | ⟨F, h1, h2⟩ | ⟨F, h1, h2⟩
      · rw [h R, h (GV × Delta)]
        exact calm2 E hρ o st _ R K
      · rw [h1 R, h1 (GV × Delta)]
        exact calm2 E hρ o st _ R K
      · rw [h1 R, h1 (GV × Delta)]
        exact (IsNat2.bif _ (callRec_nat E _ st _ h2) .none) R K
    · rfl
  · exact calm2 E hρ o st _ R K
theorem evDraw_nat (E : Env) (n : Nat) {ρ : RhoF} (hρ : RhoNat ρ) (all : List Oper) : ∀ (l : List Oper) (k : Nat) (tab : List Nat) (st : St) (recs : List (Rec × St)), IsNat (fun R K => evDraw E n (ρ R) all l k tab st recs K)
  | [], k, tab, st, recs => .ret _
  | o :: l, k, tab, st, recs => by
    intro R K
    simp only [evDraw]
    revert R K
    refine IsNat.bif _ ?_ .none
    intro R K
    split
    · exact ((evRec_nat E hρ o _).comp fun v D => IsNat.bif _ (evDraw_nat E n hρ all l _ _ _ _) .none) R K
    · split
      · split
        · exact (IsNat.bif _ (evDraw_nat E n hρ all l _ _ _ _) .none) R K
        revert R K
        refine (splitB_nat _ _).comp fun b st => ?_
        intro R K
        split
        · exact ((evRec_nat E hρ o _).comp fun v D => IsNat.bif _ (evDraw_nat E n hρ all l _ _ _ _) .none) R K
        · exact (IsNat.bif _ (evDraw_nat E n hρ all l _ _ _ _) .none) R K
      · rfl
theorem argRows_nat {ρ : RhoF} (hρ : RhoNat ρ) (st : St) (all : List Oper) (R S : Type) : argRows (ρ R) st all = argRows (ρ S) st all := by
  unfold argRows
  rw [List.flatMap_def, List.flatMap_def]
  congr 1
  apply List.map_congr_left
  intro o _
  split
  · rename_i g _ _ _
    try dsimp only
    rcases hρ g with h | ⟨F, h1, h2⟩ | ⟨F, h1, h2⟩
    · rw [h R, h S]
    · rw [h1 R, h1 S]
    · rw [h1 R, h1 S]
  · rfl
theorem exec_nat (E : Env) (n : Nat) {ρ : RhoF} (hρ : RhoNat ρ) {Λ : LamF} : ∀ (c : Code), LamNat Λ c → ∀ (st : St), IsNat2 (fun R K => exec E n (ρ R) (Λ R) c st K) := by
  intro c
  induction c with
  | skip => intro _ st; exact .ret _ _
  | region id ops draw =>
    intro _ st
    cases draw with
    | false => exact (evOps_nat E n hρ _ _ st).comp2 fun st => .ret _ _
    | true =>
      intro R K
      simp only [exec]
      try dsimp only
      rw [argRows_nat hρ st ops.toList R (Exit × St)]
      exact ((evDraw_nat E n hρ _ _ _ _ _ _).comp2 fun st => .ret _ _) R K
  | seq x y ihx ihy =>
    intro hΛ st
    replace ihx := ihx ⟨fun c' h => hΛ.1 c' (by simp [loops, h]), fun b h => hΛ.2 b (by simp [seconds, h])⟩
    replace ihy := ihy ⟨fun c' h => hΛ.1 c' (by simp [loops, h]), fun b h => hΛ.2 b (by simp [seconds, h])⟩
    refine (ihx st).comp2 fun e st => ?_
    intro R K
    cases e with
    | normal =>
      simp only
      try dsimp only
      rcases hΛ.2 y (by simp [seconds]) with h | ⟨L, h1, h2⟩
      · rw [h R, h (Exit × St)]
        exact ihy st R K
      · rw [h1 R, h1 (Exit × St)]
        exact h2 st R K
    | _ => rfl
  | cond c x y ihx ihy =>
    intro hΛ st
    replace ihx := ihx ⟨fun c' h => hΛ.1 c' (by simp [loops, h]), fun b h => hΛ.2 b (by simp [seconds, h])⟩
    replace ihy := ihy ⟨fun c' h => hΛ.1 c' (by simp [loops, h]), fun b h => hΛ.2 b (by simp [seconds, h])⟩
    refine (splitB_nat _ _).comp2 fun b st => ?_
    intro R K
    cases b with
    | true => exact ihx st R K
    | false => exact ihy st R K
  | block id x ih =>
    intro hΛ st
    replace ih := ih ⟨fun c' h => hΛ.1 c' (by simp [loops, h]), fun b h => hΛ.2 b (by simp [seconds, h])⟩
    refine (ih st).comp2 fun e st => ?_
    intro R K
    cases e with
    | exit j => exact (IsNat2.bif _ (.ret _ _) (.ret _ _)) R K
    | _ => rfl
  | loop x ih =>
    intro hΛ st R K
    simp only [exec]
    try dsimp only
    rcases hΛ.1 x (by simp [loops]) with h | ⟨L, h1, h2⟩
    · rw [h R, h (Exit × St)]; rfl
    · rw [h1 R, h1 (Exit × St)]
      exact h2 st R K
  | scope x ih =>
    intro hΛ st
    replace ih := ih ⟨fun c' h => hΛ.1 c' (by simp [loops, h]), fun b h => hΛ.2 b (by simp [seconds, h])⟩
    refine (ih st).comp2 fun e st => ?_
    intro R K
    cases e <;> rfl
  | label l => intro _ st; exact .ret _ _
  | exit id => intro _ st; exact .ret _ _
  | ret => intro _ st; exact .ret _ _
  | _ => intro _ st; exact .none
theorem wResults_nat (E : Env) : ∀ (l : List (ResultVar × TypeId)) (st : St) (acc : List PV), IsNat (fun R K => wResults (R := R) E l st acc K)
  | [], st, acc => .ret _
  | (.tmp t, ty) :: l, st, acc => (wPure_nat E st ty (.tmp t)).comp fun v st => wResults_nat E l st _
  | (.cell a t, ty) :: l, st, acc => by
    refine (evLoad_nat E st t _).comp fun v => (evLoad_nat E _ t _).comp fun v => ?_
    intro R K
    split
    · exact wResults_nat E l _ _ R K
    · rfl
theorem gResults_nat (E : Env) : ∀ (l : List ResultVar) (st : St) (acc : List GV), IsNat (fun R K => gResults (R := R) E l st acc K)
  | [], st, acc => .ret _
  | .tmp t :: l, st, acc => gResults_nat E l st _
  | .cell a t :: l, st, acc => (evLoad_nat E st t _).comp fun v => gResults_nat E l st _
theorem retPure_nat (E : Env) (fn : Func) (e : Exit) (st : St) : IsNat (fun R K => retPure (R := R) E fn K e st) := by
  have h : IsNat (fun R K => wResults (R := R) E (fn.results.toList.zip fn.resultTypes.toList) st [] (oneOrAll K)) := by
    refine (wResults_nat E _ st []).comp fun vs => ?_
    intro R K
    unfold oneOrAll
    split <;> rfl
  cases e <;> first | exact h | exact .none
theorem retHeap_nat (E : Env) (fn : Func) (e : Exit) (st : St) : IsNat2 (fun R K => retHeap (R := R) E fn K e st) := by
  have h : IsNat2 (fun R K => gResults (R := R) E fn.results.toList st [] fun us => heapOut E fn (st.freezeAll E (newRows us)) K) := by
    refine (gResults_nat E _ st []).comp2 fun us => ?_
    unfold heapOut
    refine (gResults_nat E _ _ []).comp2 fun vs => ?_
    intro R K
    unfold gOneOrAll
    split
    · rfl
    · split <;> rfl
  cases e <;> first | exact h | exact .none
theorem execPure_nat (E : Env) {ρ : RhoF} (hρ : RhoNat ρ) {Λ : LamF} (fn : Func) (hΛ : ∀ c, fn.body = some c → LamNat Λ c) (args : List PV) : IsNat (fun R K => execPure E (ρ R) (Λ R) fn args K) := by
  refine IsNat.bif _ ?_ .none
  intro R K
  split
  · rename_i c hc
    exact ((exec_nat E fn.ntmps hρ c (hΛ c hc) _).comp fun e st => retPure_nat E fn e st) R K
  · rfl
theorem execHeap_nat (E : Env) {ρ : RhoF} (hρ : RhoNat ρ) {Λ : LamF} (fn : Func) (hΛ : ∀ c, fn.body = some c → LamNat Λ c) (args : List GV) (H : List (Nat × Ob)) : IsNat2 (fun R K => execHeap E (ρ R) (Λ R) fn args H K) := by
  refine IsNat2.bif _ ?_ .none
  intro R K
  split
  · rename_i c hc
    exact ((exec_nat E fn.ntmps hρ c (hΛ c hc) _).comp2 fun e st => retHeap_nat E fn e st) R K
  · rfl
end Go.Dip
end
/- An ideal semantics of the model's code, part 30: functions. -/
section
set_option linter.unusedVariables false
set_option linter.unusedSimpArgs false
namespace Go.Dip
section
variable {R : Type} {r : R} {P : Program} {E : Env} {tB : TypeId} {W0 : World}
def resVal (tmps : Array Value) : ResultVar → Sem Value
  | .tmp t => pure (tmps.getD t undef)
  | .cell a t => do loadVar t (← asAddr (tmps.getD a undef))
theorem results_run {fn : Func} {tmps : Array Value} {xs : List Value} {w : World} (h : (fn.results.toList.mapM (resVal tmps)).run P w = .ok xs w) :
    (results fn tmps).run P w = .ok (if h : xs.toArray.size = 1 then xs.toArray[0] else .tuple xs.toArray) w := by
  have e : results fn tmps = (do let vs ← fn.results.mapM (resVal tmps); pure (if h : vs.size = 1 then vs[0] else .tuple vs)) := by
    unfold results
    congr 1
  rw [e, Array.mapM_eq_mapM_toList]
  simp only [Sem.run_bind, map_eq_pure_bind, h, Result.andThen_ok, Sem.run_pure]
theorem cell_run {t : TypeId} {x y : Value} {w : World} (h : (Instr.loadAt t x).run P w = .ok y w) : (do loadVar t (← asAddr x) : Sem Value).run P w = .ok y w := by
  unfold Instr.loadAt Instr.sureAddr at h
  cases x with
  | pointer a =>
    cases a with
    | some ad => simpa [asAddr] using h
    | none => simp at h
  | _ => simp at h
theorem cons_run {α β : Type} {f : α → Sem β} {x : α} {l : List α} {y : β} {ys : List β} {w : World} (h1 : (f x).run P w = .ok y w) (h2 : (l.mapM f).run P w = .ok ys w) : ((x :: l).mapM f).run P w = .ok (y :: ys) w := by
  rw [List.mapM_cons]
  simp only [Sem.run_bind, h1, h2, Result.andThen_ok, Sem.run_pure]
theorem wResults_inv (hE : EnvOk P E tB) : ∀ {l : List (ResultVar × TypeId)} {st : St} {acc : List PV} {K : List PV → Option R}, wResults E l st acc K = some r →
    ∃ vs, K (acc.reverse ++ vs) = some r ∧ vs.length = l.length ∧ ∀ {X : Cx} {n : Nat} {I : Mem} {μ : Locs} {a : Act} {w : World}, X.E = E → RowsOk μ → Sim X n I μ st a w →
      ∃ J st' xs, NewI X I J ∧ Sim X n J μ st' a w ∧ ((l.map fun x => x.1).mapM (resVal a.tmps)).run P w = .ok xs w ∧ xs.length = l.length ∧ ∀ i, i < vs.length → RepP J (vs.getD i .any) (xs.getD i undef)
  | [], st, acc, K, h => ⟨[], by simpa [wResults] using h, rfl, fun {X n I μ a w} hX hr hs => ⟨I, st, [], NewI.refl X I, hs, rfl, rfl, fun i hi => by simp at hi⟩⟩
  | (.tmp t, ty) :: l, st, acc, K, h => by
    simp only [wResults] at h
    obtain ⟨y, st1, h, hp⟩ := wPure_inv h
    obtain ⟨vs, h1, h2, h3⟩ := wResults_inv hE h
    refine ⟨y :: vs, by simpa using h1, by simp [h2], fun {X n I μ a w} hX hr hs => ?_⟩
    obtain ⟨J, k1, k2, k3⟩ := hp.does hX hs
    obtain ⟨L, st', xs, m1, m2, m3, m4, m5⟩ := h3 hX hr k2
    refine ⟨L, st', a.tmps.getD t undef :: xs, k1.trans m1, m2, cons_run (Sem.run_pure ..) m3, by simp [m4], fun i hi => ?_⟩
    cases i with
    | zero => exact k3.mono m1.1
    | succ i => simpa using m5 i (by simpa using hi)
  | (.cell ad t, ty) :: l, st, acc, K, h => by
    simp only [wResults] at h
    obtain ⟨v0, h, _⟩ := evLoad_inv hE h
    obtain ⟨v, h, hv⟩ := evLoad_inv hE h
    split at h
    · rename_i y hy
      obtain ⟨vs, h1, h2, h3⟩ := wResults_inv hE h
      refine ⟨y :: vs, by simpa using h1, by simp [h2], fun {X n I μ a w} hX hr hs => ?_⟩
      subst hX
      obtain ⟨J, k1, k2⟩ := hs.freezeAll v0.rows
      obtain ⟨x, k3, k4⟩ := hv rfl hr k2 (k2.get ad)
      obtain ⟨L, st', xs, m1, m2, m3, m4, m5⟩ := h3 rfl hr k2
      refine ⟨L, st', x :: xs, k1.trans m1, m2, cons_run (cell_run k3) m3, by simp [m4], fun i hi => ?_⟩
      cases i with
      | zero => exact (pure_rep hy k4).mono m1.1
      | succ i => simpa using m5 i (by simpa using hi)
    · cases h
def act0 (n : Nat) (as : Array Value) : Act := { tmps := as ++ Array.replicate (n - as.size) undef, defers := [] }
theorem args0_look : ∀ (vs : List GV) (k i : Nat) (v : GV), look (args0 k vs) i = some v → k ≤ i ∧ vs[i - k]? = some v
  | [], k, i, v, h => by simp [args0, look] at h
  | x :: vs, k, i, v, h => by
    simp only [args0, look_cons] at h
    by_cases e : i = k
    · rw [if_pos e] at h
      subst e
      exact ⟨Nat.le_refl _, by simpa using h⟩
    · rw [if_neg e] at h
      obtain ⟨h1, h2⟩ := args0_look vs (k + 1) i v h
      refine ⟨by omega, ?_⟩
      have e2 : i - k = (i - (k + 1)) + 1 := by omega
      rw [e2, List.getElem?_cons_succ]
      exact h2
theorem Sim.begin {X : Cx} {n : Nat} {I : Mem} {μ : Locs} {w : World} {args : List GV} {H : List (Nat × Ob)} {as : Array Value} (hn : as.size ≤ n) (hl : as.size = args.length) (ha : ∀ i, i < args.length → RepG I μ (args.getD i .any) (as.getD i undef))
    (hh : HeapOk X I μ w H) (him : ImmOk X I w) (hB : X.B ≤ w.heap.size) (h1 : X.w1 = w) (hcx : CxOk X) (hb : RowKit.Below X.W0.heap.size X.W0 w) : Sim X n I μ { t := args0 0 args, h := H } (act0 n as) w := by
  refine ⟨by simp [act0]; omega, rfl, fun i v hv => ?_, hh, him, hB, ?_, hcx, hb⟩
  · obtain ⟨_, h2⟩ := args0_look args 0 i v hv
    rw [Nat.sub_zero] at h2
    have hi : i < args.length := (List.getElem?_eq_some_iff.1 h2).1
    have := ha i hi
    rw [List.getD_eq_getElem?_getD, h2] at this
    have e : (act0 n as).tmps.getD i undef = as.getD i undef := by
      simp only [act0]
      rw [agetD, agetD, Array.toList_append]
      simp only [List.getD_eq_getElem?_getD]
      rw [List.getElem?_append_left (by simp; omega)]
    rw [e]
    exact this
  · rw [h1]
    exact ⟨rfl, rfl, rfl, Nat.le_refl _, fun b o hb _ _ => hb⟩
theorem pureFn_of {ρ : RhoF} {Λ : LamF} (hE : EnvOk P E tB) (hρN : RhoNat ρ) {c : Code} (hΛN : LamNat Λ c) (hρ : ∀ R, RhoOk P E tB W0 (ρ R)) {f : FuncId} {fn : Func} (hf : P.funcs[f]? = some fn) (hb : fn.body = some c)
    (hL : ∀ (R : Type) c', c' ∈ loops c → ∀ L, Λ R (2 * fr c') = some L → LoopOk P E tB W0 fn.ntmps c' L) (hC : ∀ (R : Type) b, b ∈ seconds c → ∀ J, Λ R (2 * fr b + 1) = some J → CutOk E fn.ntmps (ρ R) (Λ R) b J)
    {args : List PV} {v : GV} (h : execPure E (ρ GV) (Λ GV) fn args some = some v) : PureFn P E W0 f args v := by
  unfold execPure at h
  cases hc : Nat.ble args.length fn.ntmps && Nat.beq fn.results.size fn.resultTypes.size
  · rw [hc] at h; exact absurd h (by simp)
  · simp only [hc, cond_true, hb] at h
    simp only [Bool.and_eq_true, nbeq, decide_eq_true_eq] at hc
    have hle := Nat.le_of_ble_eq_true hc.1
    have hvs : ∀ vs, oneOrAll (R := GV) some vs = some v → v.keys = [] ∧ ((∃ y, vs = [y] ∧ v = .pv y) ∨ (vs.length ≠ 1 ∧ v = .tup (vs.map .p))) := by
      intro vs h
      unfold oneOrAll at h
      split at h
      · rename_i y
        injection h with h
        subst h
        exact ⟨rfl, .inl ⟨y, rfl, rfl⟩⟩
      · rename_i hne
        injection h with h
        subst h
        refine ⟨?_, .inr ⟨fun h1 => ?_, rfl⟩⟩
        · simp only [GV.keys, List.flatMap_map, CV.keys]
          simp
        · obtain ⟨y, hy⟩ := List.length_eq_one_iff.1 h1
          exact hne y hy
    refine ⟨?_, ?_⟩
    · -- without a run
      have hn := (exec_nat E fn.ntmps hρN c hΛN { t := args0 0 (args.map .pv), h := [] }) GV (retPure E fn some)
      dsimp only at hn
      rw [h] at hn
      obtain ⟨p, _, hp⟩ := Option.bind_eq_some_iff.1 hn.symm
      have hw : wResults E (fn.results.toList.zip fn.resultTypes.toList) p.2 [] (oneOrAll some) = some v := by
        revert hp
        cases p.1 <;> intro hp <;> first | exact hp | (simp [retPure] at hp)
      obtain ⟨vs, h1, _⟩ := wResults_inv hE hw
      exact (hvs _ h1).1
    · intro X I w as hX hW him hB hW0 hbel hl ha
      let X' : Cx := { E := E, tB := tB, B := w.heap.size, S := fun _ => False, hb := false, bb := 0, w1 := w, W0 := W0 }
      have him' : ImmOk X' I w := by
        intro b o u hu
        obtain ⟨arr, T, fz, h1, h2, _⟩ := him b o u hu
        exact ⟨arr, T, fz, h1, h2, .inl (Array.getElem?_eq_some_iff.1 h1).1⟩
      have hheap : HeapOk X' I (fun _ => none) w [] := ⟨fun r o ho => by simp [look] at ho, fun r _ o _ _ _ _ ho => by simp [look] at ho, fun r o _ _ ho => by simp [look] at ho, fun r o _ _ ho => by simp [look] at ho, fun r _ o _ ho => by simp [look] at ho⟩
      have hs0 : Sim X' fn.ntmps I (fun _ => none) { t := args0 0 (args.map .pv), h := [] } (act0 fn.ntmps as) w := by
        refine Sim.begin (by omega) (by simpa using hl) (fun i hi => ?_) hheap him' (Nat.le_refl _) rfl ⟨fun k hk => hk.elim, Nat.le_trans hW0 hB, Nat.le_trans hW0 hB⟩ hbel
        have hi' : i < args.length := by simpa using hi
        have e : (args.map GV.pv).getD i .any = .pv (args.getD i .any) := by simp [List.getD_eq_getElem?_getD, hi']
        rw [e]
        exact ha i hi'
      refine calls_of_wp hf hb ?_
      refine exec_sound (X := X') (μ := fun _ => none) hE (hρ GV) c (hL GV) (hC GV) h rfl rfl rfl (fun r v c h => by cases h) hs0 ?_
      intro e st hK J ν a' w' m1 m2 m3 m4
      have hw : wResults E (fn.results.toList.zip fn.resultTypes.toList) st [] (oneOrAll some) = some v ∧ (e = .normal ∨ e = .ret) := by
        revert hK
        cases e <;> intro hK <;> first | exact ⟨hK, .inl rfl⟩ | exact ⟨hK, .inr rfl⟩ | (simp [retPure] at hK)
      obtain ⟨vs, k1, k2, k3⟩ := wResults_inv hE hw.1
      obtain ⟨L, st', xs, n1, n2, n3, n4, n5⟩ := k3 rfl m2 m4
      simp only [List.reverse_nil, List.nil_append] at k1
      have hmap : (fn.results.toList.zip fn.resultTypes.toList).map (fun x => x.1) = fn.results.toList := by
        rw [List.map_fst_zip]
        simp [hc.2]
      rw [hmap] at n3
      have hres := results_run n3
      have hNI := m1.trans n1
      have hbelow : RowKit.Below w.heap.size w w' := by
        refine ⟨m4.fr.os, m4.fr.tape, m4.fr.output, m4.fr.size, fun k hk => ?_⟩
        have e1 : w.heap[k]? = some w.heap[k] := by simp [hk]
        rw [e1]
        exact m4.fr.keep k _ e1 (fun h => h) (fun h => by cases h)
      have hpost : a'.defers = [] ∧ ∃ x, (results fn a'.tmps).run P w' = .ok x w' ∧ ∃ x' J', Ending.returned x = .returned x' ∧ RepG J' (fun _ => none) v x' ∧ MemLe I J' ∧ (∀ b o u, J' b o = some u → I b o = some u ∨ w.heap.size ≤ b) ∧ ImmOk X J' w' ∧ RowKit.Below w.heap.size w w' := by
        refine ⟨m4.defers, _, hres, _, L, rfl, ?_, hNI.1, fun b o u hu => ?_, ?_, hbelow⟩
        · rcases (hvs vs k1).2 with ⟨y, rfl, rfl⟩ | ⟨hne, rfl⟩
          · have hx1 : xs.length = 1 := by rw [n4, ← k2]; rfl
            obtain ⟨x, rfl⟩ := List.length_eq_one_iff.1 hx1
            have : RepP L y x := by simpa using n5 0 (by simp)
            exact this
          · have hx1 : xs.toArray.size ≠ 1 := by simp [n4, ← k2]; exact hne
            rw [dif_neg hx1]
            refine ⟨xs.toArray, rfl, by simp [n4, ← k2], fun i u hu => ?_⟩
            rw [List.getElem?_map] at hu
            obtain ⟨y, hy, rfl⟩ := Option.map_eq_some_iff.1 hu
            have hi : i < vs.length := (List.getElem?_eq_some_iff.1 hy).1
            have := n5 i hi
            rw [List.getD_eq_getElem?_getD, hy] at this
            rw [agetD]
            exact this
        · rcases hNI.2 b o u hu with h | h | h
          · exact .inl h
          · exact h.elim
          · exact .inr h
        · intro b o u hu
          obtain ⟨arr, T, fz, q1, q2, q3⟩ := n2.im b o u hu
          refine ⟨arr, T, fz, q1, q2, ?_⟩
          rcases hNI.2 b o u hu with h | h | h
          · obtain ⟨arr', T', fz', p1, p2, p3⟩ := him b o u h
            have hlt := (Array.getElem?_eq_some_iff.1 p1).1
            rw [hbelow.block b hlt, p1] at q1
            injection q1 with q1
            injection q1 with _ q1 _
            rw [← q1]
            exact p3
          · exact h.elim
          · rcases q3 with q3 | q3
            · have q3' : b < w.heap.size := q3
              have h' : w.heap.size ≤ b := h
              omega
            · rw [hX]; exact .inr q3
      rcases hw.2 with rfl | rfl
      · exact hpost
      · exact hpost
theorem RepG.norm {I : Mem} {μ : Locs} {v : GV} {x : Value} (h : RepG I μ v x) : RepG I μ v.norm x := by
  unfold GV.norm
  split
  · rename_i y hy; exact pure_rep hy h
  · exact h
theorem gResults_inv (hE : EnvOk P E tB) : ∀ {l : List ResultVar} {st : St} {acc : List GV} {K : List GV → Option R}, gResults E l st acc K = some r →
    ∃ vs, K (acc.reverse ++ vs) = some r ∧ vs.length = l.length ∧ ∀ {X : Cx} {n : Nat} {I : Mem} {μ : Locs} {a : Act} {w : World}, X.E = E → RowsOk μ → Sim X n I μ st a w →
      ∃ xs, (l.mapM (resVal a.tmps)).run P w = .ok xs w ∧ xs.length = l.length ∧ ∀ i, i < vs.length → RepG I μ (vs.getD i .any) (xs.getD i undef)
  | [], st, acc, K, h => ⟨[], by simpa [gResults] using h, rfl, fun {X n I μ a w} hX hr hs => ⟨[], rfl, rfl, fun i hi => by simp at hi⟩⟩
  | .tmp t :: l, st, acc, K, h => by
    simp only [gResults] at h
    obtain ⟨vs, h1, h2, h3⟩ := gResults_inv hE h
    refine ⟨(st.get t).norm :: vs, by simpa using h1, by simp [h2], fun {X n I μ a w} hX hr hs => ?_⟩
    obtain ⟨xs, m3, m4, m5⟩ := h3 hX hr hs
    refine ⟨a.tmps.getD t undef :: xs, cons_run (Sem.run_pure ..) m3, by simp [m4], fun i hi => ?_⟩
    cases i with
    | zero => exact (hs.get t).norm
    | succ i => simpa using m5 i (by simpa using hi)
  | .cell ad t :: l, st, acc, K, h => by
    simp only [gResults] at h
    obtain ⟨v, h, hv⟩ := evLoad_inv hE h
    obtain ⟨vs, h1, h2, h3⟩ := gResults_inv hE h
    refine ⟨v.norm :: vs, by simpa using h1, by simp [h2], fun {X n I μ a w} hX hr hs => ?_⟩
    obtain ⟨x, k3, k4⟩ := hv hX hr hs (hs.get ad)
    obtain ⟨xs, m3, m4, m5⟩ := h3 hX hr hs
    refine ⟨x :: xs, cons_run (cell_run k3) m3, by simp [m4], fun i hi => ?_⟩
    cases i with
    | zero => exact k4.norm
    | succ i => simpa using m5 i (by simpa using hi)
theorem allC_inv : ∀ {vs : List GV} {cs : List CV}, allC vs = some cs → vs = cs.map .c
  | [], cs, h => by simp [allC] at h; subst h; rfl
  | .c v :: l, cs, h => by
    simp only [allC] at h
    cases hl : allC l with
    | none => simp [hl] at h
    | some ds =>
      simp only [hl, Option.some.injEq] at h
      subst h
      simp [allC_inv hl]
  | .agg _ :: l, cs, h => by simp [allC] at h
  | .tup _ :: l, cs, h => by simp [allC] at h
theorem heapFn_of {ρ : RhoF} {Λ : LamF} (hE : EnvOk P E tB) (hρ : ∀ R, RhoOk P E tB W0 (ρ R)) {f : FuncId} {fn : Func} {c : Code} (hf : P.funcs[f]? = some fn) (hb : fn.body = some c)
    (hL : ∀ (R : Type) c', c' ∈ loops c → ∀ L, Λ R (2 * fr c') = some L → LoopOk P E tB W0 fn.ntmps c' L) (hC : ∀ (R : Type) b, b ∈ seconds c → ∀ J, Λ R (2 * fr b + 1) = some J → CutOk E fn.ntmps (ρ R) (Λ R) b J)
    {args : List GV} {H H' : List (Nat × Ob)} {v : GV} (h : execHeap E (ρ (GV × List (Nat × Ob))) (Λ (GV × List (Nat × Ob))) fn args H (fun v H => some (v, H)) = some (v, H')) : HeapFn P E tB W0 f args H v H' := by
  unfold execHeap at h
  cases hc : Nat.ble args.length fn.ntmps
  · rw [hc] at h; exact absurd h (by simp)
  · simp only [hc, cond_true, hb] at h
    have hle := Nat.le_of_ble_eq_true hc
    intro X I μ w as hX hT hW hS hbb h1 hcx hro him hB hbel hheap hl ha
    have hs0 : Sim X fn.ntmps I μ { t := args0 0 args, h := H } (act0 fn.ntmps as) w := Sim.begin (by omega) hl ha hheap him hB h1 hcx (by rw [hW]; exact hbel)
    refine calls_of_wp hf hb ?_
    refine exec_sound (X := X) (μ := μ) hE (hρ _) c (hL _) (hC _) h hX hT hW hro hs0 ?_
    intro e st0 hK J0 ν a' w' m10 m2 m3 m40
    have hw0 : (gResults E fn.results.toList st0 [] fun us => heapOut E fn (st0.freezeAll E (newRows us)) fun v H => some (v, H)) = some (v, H') ∧ (e = .normal ∨ e = .ret) := by
      revert hK
      cases e <;> intro hK <;> first | exact ⟨hK, .inl rfl⟩ | exact ⟨hK, .inr rfl⟩ | (simp [retHeap] at hK)
    obtain ⟨us, hus, _, _⟩ := gResults_inv hE hw0.1
    simp only [List.reverse_nil, List.nil_append] at hus
    obtain ⟨J, hJ0, m4⟩ : ∃ J, NewI X J0 J ∧ Sim X fn.ntmps J ν (st0.freezeAll E (newRows us)) a' w' := by
      subst hX
      exact m40.freezeAll (newRows us)
    have m1 := m10.trans hJ0
    generalize hst : st0.freezeAll E (newRows us) = st at hus m4
    have hw : gResults E fn.results.toList st [] (gOneOrAll fun v => some (v, left st v)) = some (v, H') ∧ (e = .normal ∨ e = .ret) := ⟨hus, hw0.2⟩
    obtain ⟨vs, k1, k2, k3⟩ := gResults_inv hE hw.1
    obtain ⟨xs, n3, n4, n5⟩ := k3 hX m2 m4
    simp only [List.reverse_nil, List.nil_append] at k1
    have hres := results_run n3
    have hrep : RepG J ν v (if h : xs.toArray.size = 1 then xs.toArray[0] else .tuple xs.toArray) ∧ H' = left st v := by
      unfold gOneOrAll at k1
      split at k1
      · rename_i y
        injection k1 with k1
        injection k1 with k1 k1'
        subst k1
        have hx1 : xs.length = 1 := by rw [n4, ← k2]; rfl
        obtain ⟨x, rfl⟩ := List.length_eq_one_iff.1 hx1
        exact ⟨by simpa using n5 0 (by simp), k1'.symm⟩
      · rename_i hne
        split at k1
        · rename_i cs hcs
          injection k1 with k1
          injection k1 with k1 k1'
          subst k1
          have hvs := allC_inv hcs
          refine ⟨?_, k1'.symm⟩
          have hx1 : xs.toArray.size ≠ 1 := by
            intro hh
            have : vs.length = 1 := by rw [k2, ← n4]; simpa using hh
            obtain ⟨y, hy⟩ := List.length_eq_one_iff.1 this
            exact hne y hy
          rw [dif_neg hx1]
          have hcl : cs.length = xs.length := by rw [n4, ← k2, hvs]; simp
          refine ⟨xs.toArray, rfl, by simp [hcl], fun i u hu => ?_⟩
          have hi : i < vs.length := by rw [hvs]; simpa using (List.getElem?_eq_some_iff.1 hu).1
          have := n5 i hi
          rw [hvs, List.getD_eq_getElem?_getD, List.getElem?_map, hu] at this
          rw [agetD]
          exact this
        · cases k1
    have hsub : Sub st { t := st.t, h := left st v } := ⟨fun i u hu => ⟨u, [], hu, rfl⟩, fun q o ho => ⟨o, [], look_footH' ho, rfl⟩⟩
    have m5 := m4.sub hsub
    have hpost : a'.defers = [] ∧ ∃ x, (results fn a'.tmps).run P w' = .ok x w' ∧ ∃ x' J' ν', Ending.returned x = .returned x' ∧ RepG J' ν' v x' ∧ NewI X I J' ∧ (RowsOk ν' ∧ Keep μ ν') ∧ ImmOk X J' w' ∧ HeapOk X J' ν' w' H' ∧ Frame X w w' := by
      refine ⟨m4.defers, _, hres, _, J, ν, rfl, hrep.1, m1, ⟨m2, m3⟩, m4.im, ?_, by rw [← h1]; exact m4.fr⟩
      rw [hrep.2]
      exact m5.h
    rcases hw.2 with rfl | rfl
    · exact hpost
    · exact hpost
end
end Go.Dip
end
/- An ideal semantics of the model's code: rows told by a key of their own, wherever they came from. -/
section
set_option linter.unusedVariables false
set_option linter.unusedSimpArgs false
namespace Go.Dip
def renKey (r q k : Nat) : Nat := bif Nat.beq k r then q else k
theorem renKey_same (r q : Nat) : renKey r q r = q := by simp [renKey]
theorem renKey_ne {r q k : Nat} (h : k ≠ r) : renKey r q k = k := by simp [renKey, nbeq, h]
def St.rename (r q : Nat) (st : St) : St :=
  { t := st.t.map fun x => (x.1, x.2.map (CV.ren (renKey r q))), h := st.h.map fun x => (renKey r q x.1, x.2.map (CV.ren (renKey r q))) }
def St.move (r q : Nat) (st : St) : St := bif Nat.beq r q then st else bif rowAt (st.strike q).h r && Nat.ble 2000 q then (st.strike q).rename r q else st
inductive Own where
  | slot (i q : Nat) (e : TypeId)
  | cell (b j q : Nat) (e : TypeId)
def newNil (q : Nat) (e : TypeId) (st : St) : St := newOb q (.row e []) (st.strike q)
def St.own (E : Env) (st : St) : Own → St
  | .slot i q e => match st.get i with
    | .c (.orow r) => st.move r q
    | .c (.nils _) => bif Nat.beq e E.tb || !Nat.ble 2000 q then st else (newNil q e st).put (some i) (.c (.orow q))
    | _ => st
  | .cell b j q e => match look st.h b with
    | some (.box cs) => match cs[j]? with
      | some (.orow r) => st.move r q
      | some (.nils _) => bif Nat.beq e E.tb || (!Nat.ble 2000 q || Nat.beq b q) then st else match look (newNil q e st).h b with
        | some (.box cs') => setOb b (.box (cs'.set j (.orow q))) (newNil q e st)
        | _ => st
      | _ => st
    | _ => st
def St.ownAll (E : Env) (l : List Own) (st : St) : St := l.foldl (fun st o => st.own E o) st
theorem Sim.told {X : Cx} {n : Nat} {I : Mem} {μ ν : Locs} {st s : St} {a : Act} {w : World} (h : Sim X n I μ st a w) (ht : ∀ i v, look s.t i = some v → RepG I ν v (a.tmps.getD i undef))
    (f : Nat → Nat) (hf : ∀ r r' o o', look s.h r = some o → look s.h r' = some o' → f r = f r' → r = r')
    (hh : ∀ r o, look s.h r = some o → ν r = μ (f r) ∧ ∃ p, look st.h (f r) = some p ∧ ObOk X I ν w r o ∧ o.isBld = p.isBld ∧ o.isByte X.E = p.isByte X.E) : Sim X n I ν s a w := by
  refine ⟨h.size, h.defers, ht, ⟨?_, ?_, ?_, ?_, ?_⟩, h.im, h.bw, h.fr, h.cx, h.base⟩
  · intro r o ho; obtain ⟨_, p, _, k, _⟩ := hh r o ho; exact k
  · intro r r' o o' l l' b ho ho' hne hl hl' hb
    obtain ⟨e1, p, k1, _⟩ := hh r o ho
    obtain ⟨e2, p', k1', _⟩ := hh r' o' ho'
    exact h.h.apart _ _ p p' l l' b k1 k1' (fun e => hne (hf r r' o o' ho ho' e)) (e1 ▸ hl) (e2 ▸ hl') hb
  · intro r o l b ho hl hb; obtain ⟨e1, p, k1, _⟩ := hh r o ho; exact h.h.imm _ p l b k1 (e1 ▸ hl) hb
  · intro r o l b ho hl hb; obtain ⟨e1, p, k1, _⟩ := hh r o ho; exact h.h.own _ p l b k1 (e1 ▸ hl) hb
  · intro r r' o o' ho ho' hne hb
    obtain ⟨_, p, k1, _, k2, _⟩ := hh r o ho
    obtain ⟨_, p', k1', _, k2', k3'⟩ := hh r' o' ho'
    rw [k2] at hb
    rw [k2', k3']
    exact h.h.alone _ _ p p' k1 k1' (fun e => hne (hf r r' o o' ho ho' e)) hb
theorem drop_free {α : Type} (q : Nat) : ∀ (l : List (Nat × α)) x, x ∈ drop q l → x.1 ≠ q
  | [], x, h => by simp [drop] at h
  | y :: l, x, h => by
    simp only [drop, nbeq] at h
    by_cases e : q = y.1
    · simp only [e, decide_true, cond_true] at h
      exact e ▸ drop_free y.1 l x h
    · simp only [e, decide_false, cond_false, List.mem_cons] at h
      rcases h with rfl | h
      · exact fun k => e k.symm
      · exact drop_free q l x h
theorem look_rename {α : Type} {r q : Nat} {g : α → α} : ∀ {l : List (Nat × α)} {k : Nat} {o : α}, (∀ x, x ∈ l → x.1 ≠ q) → look (l.map fun x => (renKey r q x.1, g x.2)) k = some o → ∃ k0 p, look l k0 = some p ∧ k0 ≠ q ∧ k = renKey r q k0 ∧ o = g p
  | [], k, o, _, h => by simp [look] at h
  | x :: l, k, o, hq, h => by
    simp only [List.map_cons, look_cons] at h
    have hx := hq x (by simp)
    by_cases e : k = renKey r q x.1
    · rw [if_pos e] at h
      injection h with h
      exact ⟨x.1, x.2, by simp [look_cons], hx, e, h.symm⟩
    · rw [if_neg e] at h
      obtain ⟨k0, p, h1, h2, h3, h4⟩ := look_rename (fun y hy => hq y (by simp [hy])) h
      refine ⟨k0, p, ?_, h2, h3, h4⟩
      rw [look_cons, if_neg]
      · exact h1
      · intro e'
        rw [e'] at h3
        exact e h3
theorem GV.strike_free {st : St} {q i : Nat} {v : GV} (h : look (st.strike q).t i = some v) : q ∉ v.keys := by
  rw [look_strike_t] at h
  obtain ⟨u, _, rfl⟩ := Option.map_eq_some_iff.1 h
  exact GV.strike_keys q u
theorem Ob.strike_free {st : St} {q r : Nat} {o : Ob} (h : look (st.strike q).h r = some o) : q ∉ o.keys := by
  rw [look_strike] at h
  by_cases e : r = q
  · simp [e] at h
  · simp only [e, if_false] at h
    obtain ⟨u, _, rfl⟩ := Option.map_eq_some_iff.1 h
    exact (Ob.strike_keys q u).1
theorem Sim.move {X : Cx} {n : Nat} {I : Mem} {μ : Locs} {st : St} {a : Act} {w : World} (hr : RowsOk μ) (h : Sim X n I μ st a w) (r q : Nat) : ∃ ν, (RowsOk ν ∧ Keep μ ν) ∧ Sim X n I ν (st.move r q) a w := by
  unfold St.move
  cases hb : Nat.beq r q
  · cases hc : rowAt (st.strike q).h r && Nat.ble 2000 q
    · exact ⟨μ, ⟨hr, Keep.refl μ⟩, h⟩
    · simp only [Bool.and_eq_true, Nat.ble_eq] at hc
      obtain ⟨hc, hq⟩ := hc
      have hs := h.strike q (ν := μ) fun _ _ => rfl
      simp only [cond_true, cond_false]
      unfold rowAt at hc
      split at hc
      · rename_i e es hl
        obtain ⟨v, xs, hv, _, _⟩ := hs.h.ok r _ hl
        have hrq : r ≠ q := by
          intro e; subst e; rw [nbeq] at hb; simp at hb
        let ν := upd μ q (.row v (X.E.sz e))
        have key : ∀ k, k ≠ q → ν (renKey r q k) = μ k := by
          intro k hk
          by_cases e : k = r
          · rw [e, renKey_same, hv]; exact upd_same ..
          · rw [renKey_ne e]; exact upd_ne μ _ hk
        refine ⟨ν, ⟨hr.upd q _ fun v' c e => ?_, fun k l h1 h2 h3 h4 => ?_⟩, ?_⟩
        · injection e with e1 e2
          subst e1
          exact hr r _ _ hv
        · exact (upd_ne μ _ (by omega)).trans h3
        · have hfree : ∀ x, x ∈ (st.strike q).h → x.1 ≠ q := by
            intro x hx
            simp only [St.strike, St.map, List.mem_map] at hx
            obtain ⟨y, hy, rfl⟩ := hx
            exact drop_free q st.h y hy
          have back : ∀ k o, look ((st.strike q).rename r q).h k = some o → ∃ k0 p, look (st.strike q).h k0 = some p ∧ k0 ≠ q ∧ k = renKey r q k0 ∧ o = p.map (CV.ren (renKey r q)) := fun k o ho => look_rename hfree ho
          refine hs.told (fun i v hv => ?_) (renKey q r) (fun k k' o o' ho ho' e => ?_) (fun k o ho => ?_)
          · have : look ((st.strike q).t.map fun x => (x.1, x.2.map (CV.ren (renKey r q)))) i = some v := hv
            rw [look_map (fun v => GV.map (CV.ren (renKey r q)) v)] at this
            obtain ⟨u, hu, rfl⟩ := Option.map_eq_some_iff.1 this
            exact (hs.t i u hu).ren fun k hk => key k fun e => GV.strike_free hu (e ▸ hk)
          · obtain ⟨k0, p, h1, h2, rfl, _⟩ := back k o ho
            obtain ⟨k1, p', h1', h2', rfl, _⟩ := back k' o' ho'
            by_cases e1 : k0 = r <;> by_cases e2 : k1 = r
            · rw [e1, e2]
            · rw [e1, renKey_same, renKey_same, renKey_ne e2, renKey_ne h2'] at e; exact absurd e.symm e2
            · rw [e2, renKey_same, renKey_same, renKey_ne e1, renKey_ne h2] at e; exact absurd e e1
            · rw [renKey_ne e1, renKey_ne e2, renKey_ne h2, renKey_ne h2'] at e; rw [renKey_ne e1, renKey_ne e2, e]
          · obtain ⟨k0, p, h1, h2, rfl, rfl⟩ := back k o ho
            have e0 : renKey q r (renKey r q k0) = k0 := by
              by_cases e1 : k0 = r
              · rw [e1, renKey_same, renKey_same]
              · rw [renKey_ne e1, renKey_ne h2]
            rw [e0]
            exact ⟨key k0 h2, p, h1, (hs.h.ok k0 p h1).ren rfl rfl rfl (key k0 h2) (fun k hk => key k fun e => Ob.strike_free h1 (e ▸ hk)) (fun _ _ _ h => h), Ob.map_isBld _ p, Ob.map_isByte _ X.E p⟩
      · cases hc
  · exact ⟨μ, ⟨hr, Keep.refl μ⟩, h⟩
theorem Sim.newNil {X : Cx} {n : Nat} {I : Mem} {μ : Locs} {st : St} {a : Act} {w : World} (h : Sim X n I μ st a w) (q : Nat) (e : TypeId) (he : Nat.beq e X.E.tb = false) : Sim X n I (upd μ q (.row (.slice none 0 0) (X.E.sz e))) (newNil q e st) a w := by
  refine h.newRow q e [] _ [] (World.ownsRow_nil w X.B e (X.E.sz e)) (fun i hi => by simp at hi) (fun b hb => by simp [Value.ownBlock] at hb) ?_
  simp [okNew, Ob.isBld, Ob.isByte, he]
theorem RowsOk.nil {μ : Locs} (h : RowsOk μ) (q c : Nat) : RowsOk (Dip.upd μ q (.row (.slice none 0 0) c)) := h.upd q _ fun v c' e => by injection e with e1 _; subst e1; exact ⟨_, _, _, rfl⟩
theorem Keep.big (μ : Locs) {q : Nat} (l : Loc) (hq : 2000 ≤ q) : Keep μ (Dip.upd μ q l) := fun k l' h1 h2 h3 _ => (upd_ne μ _ (by omega)).trans h3
theorem Sim.putT {X : Cx} {n : Nat} {I : Mem} {μ : Locs} {st : St} {a : Act} {w : World} (h : Sim X n I μ st a w) (i : Nat) {v : GV} (hv : RepG I μ v (a.tmps.getD i undef)) : Sim X n I μ (st.put (some i) v) a w := by
  refine ⟨h.size, h.defers, fun j u hu => ?_, h.h, h.im, h.bw, h.fr, h.cx, h.base⟩
  simp only [St.put, look_cons] at hu
  by_cases e : j = i
  · rw [if_pos e] at hu
    injection hu with hu
    rw [e, ← hu]
    exact hv
  · rw [if_neg e] at hu
    exact h.t j u hu
theorem Sim.own {X : Cx} {n : Nat} {I : Mem} {μ : Locs} {st : St} {a : Act} {w : World} (hr : RowsOk μ) (h : Sim X n I μ st a w) (o : Own) : ∃ ν, (RowsOk ν ∧ Keep μ ν) ∧ Sim X n I ν (st.own X.E o) a w := by
  have same : ∃ ν, (RowsOk ν ∧ Keep μ ν) ∧ Sim X n I ν st a w := ⟨μ, ⟨hr, Keep.refl μ⟩, h⟩
  cases o with
  | slot i q e =>
    simp only [St.own]
    split
    · exact h.move hr _ _
    · rename_i c hg
      cases hc : Nat.beq e X.E.tb || !Nat.ble 2000 q
      · simp only [Bool.or_eq_false_iff, Bool.not_eq_false', Nat.ble_eq] at hc
        refine ⟨_, ⟨hr.nil q _, Keep.big μ _ hc.2⟩, (h.newNil q e hc.1).putT i ?_⟩
        have h1 := h.get i
        rw [hg] at h1
        have h2 : a.tmps.getD i undef = .slice none 0 0 := h1
        rw [h2]
        exact ⟨_, upd_same ..⟩
      · exact same
    · exact same
  | cell b j q e =>
    simp only [St.own]
    split
    · rename_i cs hb
      split
      · exact h.move hr _ _
      · rename_i c hg
        cases hc : Nat.beq e X.E.tb || (!Nat.ble 2000 q || Nat.beq b q)
        · simp only [cond_false]
          simp only [Bool.or_eq_false_iff, Bool.not_eq_false', Nat.ble_eq] at hc
          obtain ⟨hc1, hc2, hc3⟩ := hc
          have hbq : b ≠ q := by intro e; subst e; rw [nbeq] at hc3; simp at hc3
          have hN := h.newNil q e hc1
          have hlk : look (Dip.newNil q e st).h b = some (.box (cs.map (CV.strike q))) := by
            simp only [Dip.newNil, newOb, look_cons, if_neg hbq, look_strike, hb, Option.map_some, Ob.map]
          rw [hlk]
          refine ⟨_, ⟨hr.nil q _, Keep.big μ _ hc2⟩, hN.told (fun i v hv => hN.t i v hv) id (fun _ _ _ _ _ _ e => e) (fun k o ho => ⟨rfl, ?_⟩)⟩
          simp only [Dip.setOb, look_cons] at ho
          by_cases e1 : k = b
          · rw [if_pos e1] at ho
            injection ho with ho
            subst e1
            obtain ⟨b', arr, T, k1, k2, k3, k4, k5⟩ := hN.h.ok k _ hlk
            refine ⟨_, hlk, ?_, by rw [← ho]; rfl, by rw [← ho]; rfl⟩
            rw [← ho]
            refine ⟨b', arr, T, k1, k2, k3, k4, by rw [List.length_set]; exact k5.1, fun i u hu => ?_⟩
            rw [List.getElem?_set] at hu
            by_cases e2 : j = i
            · subst e2
              have hlt : j < (cs.map (CV.strike q)).length := by
                rw [List.length_map]; exact (List.getElem?_eq_some_iff.1 hg).1
              rw [if_pos rfl, if_pos hlt] at hu
              injection hu with hu
              have k6 := k5.2 j (.nils c) (by simp [List.getElem?_map, hg, CV.strike])
              rw [← hu]
              have k7 : arr.toList.getD j undef = .slice none 0 0 := k6.1
              rw [k7]
              exact ⟨⟨_, upd_same ..⟩, rfl⟩
            · rw [if_neg e2] at hu
              exact k5.2 i u hu
          · rw [if_neg e1, look_drop, if_neg e1] at ho
            exact ⟨o, ho, hN.h.ok k o ho, rfl, rfl⟩
        · exact same
      · exact same
    · exact same
theorem Sim.ownAll {X : Cx} {n : Nat} {I : Mem} {a : Act} {w : World} : ∀ (l : List Own) {μ : Locs} {st : St}, RowsOk μ → Sim X n I μ st a w → ∃ ν, (RowsOk ν ∧ Keep μ ν) ∧ Sim X n I ν (st.ownAll X.E l) a w
  | [], μ, st, hr, h => ⟨μ, ⟨hr, Keep.refl μ⟩, h⟩
  | o :: l, μ, st, hr, h => by
    obtain ⟨ν, ⟨h1, h2⟩, h3⟩ := h.own hr o
    obtain ⟨κ, ⟨k1, k2⟩, k3⟩ := Sim.ownAll l h1 h3
    exact ⟨κ, ⟨k1, h2.trans k2⟩, k3⟩
end Go.Dip
end
/- An ideal semantics of the model's code, part 31: shapes of states: what a loop or a second part is told. -/
section
set_option linter.unusedVariables false
set_option linter.unusedSimpArgs false
namespace Go.Dip
inductive SK where
  | int (k : IntKind)
  | bool
  | str
  | pv
  | sl (c : Nat)
  | fix (v : CV)
inductive OK where
  | box (cs : List SK)
  | row (e : TypeId)
  | bld
structure Shape where
  t : List (Nat × SK)
  h : List (Nat × OK)
  own : List Own := []
def listEq : List Nat → List Nat → Bool
  | [], [] => true
  | x :: l, y :: m => Nat.beq x y && listEq l m
  | _, _ => false
def sameC : CV → CV → Bool
  | .nils c, .nils d => Nat.beq c d
  | .orow r, .orow q => Nat.beq r q
  | .ptr r o, .ptr q p => Nat.beq r q && Nat.beq o p
  | .fn f rs, .fn g qs => Nat.beq f g && listEq rs qs
  | .glob g, .glob h => Nat.beq g h
  | _, _ => false
def fitC : SK → CV → Bool
  | .int k, .p x => isInt k x
  | .bool, .p x => isBool x
  | .str, .p x => isStr x
  | .pv, v => v.pure?.isSome
  | .sl c, v => match v.pure? with
    | some x => isSl c x
    | none => false
  | .fix u, v => sameC u v
  | _, _ => false
def pickC : SK → CV → PV
  | .pv, v => v.pure?.getD .any
  | .sl _, v => v.pure?.getD .any
  | .fix _, _ => .any
  | _, .p x => x
  | _, _ => .any
def fitG : SK → GV → Bool
  | k, .c v => fitC k v
  | .pv, g => g.pure?.isSome
  | _, _ => false
def pickG : SK → GV → PV
  | k, .c v => pickC k v
  | .pv, g => g.pure?.getD .any
  | _, _ => .any
def buildC : SK → PV → CV
  | .int k, x => .p (.int k (intOf x))
  | .bool, x => .p (.bool (boolOf x))
  | .str, x => .p (.str (strOf x))
  | .pv, x => .p x
  | .sl c, x => .p (.sl c (slOf x))
  | .fix v, _ => v
def fitCs : List SK → List CV → Bool
  | [], [] => true
  | k :: l, v :: m => fitC k v && fitCs l m
  | _, _ => false
def pickCs : List SK → List CV → List PV
  | k :: l, v :: m => pickC k v :: pickCs l m
  | _, _ => []
def fitO : OK → Ob → Bool
  | .box ks, .box cs => fitCs ks cs
  | .row e, .row e' _ => Nat.beq e e'
  | .bld, .bld _ => true
  | _, _ => false
def pickO : OK → Ob → List PV
  | .box ks, .box cs => pickCs ks cs
  | .row _, .row _ es => [.sl 0 es]
  | .bld, .bld s => [.str s]
  | _, _ => []
def OK.cnt : OK → Nat
  | .box ks => ks.length
  | _ => 1
def buildCs : List SK → Nat → List PV → List CV
  | [], _, _ => []
  | k :: l, j, vs => buildC k (vs.getD j .any) :: buildCs l (j + 1) vs
def buildO : OK → Nat → List PV → Ob
  | .box ks, j, vs => .box (buildCs ks j vs)
  | .row e, j, vs => .row e (slOf (vs.getD j .any))
  | .bld, j, vs => .bld (strOf (vs.getD j .any))
def fitT (st : St) : List (Nat × SK) → Bool
  | [] => true
  | x :: l => fitG x.2 (st.get x.1) && fitT st l
def fitH (h : List (Nat × Ob)) : List (Nat × OK) → Bool
  | [] => true
  | x :: l => (match look h x.1 with
    | some o => fitO x.2 o
    | none => false) && fitH h l
def pickT (st : St) : List (Nat × SK) → List PV
  | [] => []
  | x :: l => pickG x.2 (st.get x.1) :: pickT st l
def pickH (h : List (Nat × Ob)) : List (Nat × OK) → List PV
  | [] => []
  | x :: l => (match look h x.1 with
    | some o => pickO x.2 o
    | none => []) ++ pickH h l
def buildT : List (Nat × SK) → Nat → List PV → List (Nat × GV)
  | [], _, _ => []
  | x :: l, j, vs => (x.1, .c (buildC x.2 (vs.getD j .any))) :: buildT l (j + 1) vs
def buildH : List (Nat × OK) → Nat → List PV → List (Nat × Ob)
  | [], _, _ => []
  | x :: l, j, vs => (x.1, buildO x.2 j vs) :: buildH l (j + x.2.cnt) vs
def Shape.fits (sh : Shape) (st : St) : Bool := fitT st sh.t && fitH st.h sh.h
def Shape.pick (sh : Shape) (st : St) : List PV := pickT st sh.t ++ pickH st.h sh.h
def Shape.build (sh : Shape) (vs : List PV) : St := { t := buildT sh.t 0 vs, h := buildH sh.h sh.t.length vs }
def isPv : SK → Bool
  | .pv => true
  | .sl _ => true
  | _ => false
def cellRows : List SK → List CV → List Nat
  | k :: l, v :: m => (bif isPv k then v.rows else []) ++ cellRows l m
  | _, _ => []
def Shape.rows (sh : Shape) (st : St) : List Nat :=
  (sh.t.flatMap fun x => bif isPv x.2 then (st.get x.1).rows else []) ++ sh.h.flatMap fun x => match x.2, look st.h x.1 with
    | .box ks, some (.box cs) => cellRows ks cs
    | _, _ => []
def Shape.still (E : Env) (sh : Shape) (st : St) : St := (st.ownAll E sh.own).freezeAll E (sh.rows (st.ownAll E sh.own))
def wrap {R : Type} (E : Env) (sh : Shape) (J : List PV → (Exit → St → Option R) → Option R) : Wrap R := fun st K => bif sh.fits (sh.still E st) then J (sh.pick (sh.still E st)) K else none
def Shape.mask (E : Env) (sh : Shape) (st : St) : St := bif sh.fits (sh.still E st) then sh.build (sh.pick (sh.still E st)) else st
theorem listEq_iff : ∀ {l m : List Nat}, listEq l m = true → l = m
  | [], [], _ => rfl
  | x :: l, y :: m, h => by
    simp only [listEq, Bool.and_eq_true, nbeq, decide_eq_true_eq] at h
    rw [h.1, listEq_iff h.2]
  | [], _ :: _, h => by simp [listEq] at h
  | _ :: _, [], h => by simp [listEq] at h
theorem sameC_iff {u v : CV} (h : sameC u v = true) : u = v := by
  cases u <;> cases v <;> simp only [sameC, Bool.and_eq_true, nbeq, decide_eq_true_eq] at h <;> first
    | (cases h; done)
    | (rw [h])
    | (rw [h.1, h.2])
    | (rw [h.1, listEq_iff h.2])
theorem fitC_rep {I : Mem} {μ : Locs} {k : SK} {v : CV} {x : Value} (h : fitC k v = true) (hx : RepC I μ v x) : RepC I μ (buildC k (pickC k v)) x := by
  cases k with
  | int k =>
    cases v with
    | p y =>
      have h' : isInt k y = true := h
      have e := isInt_inv h'
      show RepP I (.int k (intOf y)) x
      rw [← e]
      exact hx
    | _ => simp [fitC] at h
  | bool =>
    cases v with
    | p y =>
      cases y with
      | bool b => exact hx
      | _ => simp [fitC, isBool] at h
    | _ => simp [fitC] at h
  | str =>
    cases v with
    | p y =>
      cases y with
      | str b => exact hx
      | _ => simp [fitC, isStr] at h
    | _ => simp [fitC] at h
  | pv =>
    have h' : v.pure?.isSome = true := by cases v <;> exact h
    obtain ⟨y, hy⟩ := Option.isSome_iff_exists.1 h'
    have : pickC .pv v = y := by simp [pickC, hy]
    rw [this]
    exact pureC_rep hy hx
  | sl c =>
    have h' : (match v.pure? with | some x => isSl c x | none => false) = true := by cases v <;> exact h
    split at h'
    · rename_i y hy
      have : pickC (.sl c) v = y := by simp [pickC, hy]
      rw [this]
      have e := isSl_inv h'
      show RepP I (.sl c (slOf y)) x
      rw [← e]
      exact pureC_rep hy hx
    · cases h'
  | fix u =>
    have h' : sameC u v = true := by cases v <;> exact h
    have e := sameC_iff h'
    show RepC I μ u x
    rw [e]
    exact hx
theorem fitG_rep {I : Mem} {μ : Locs} {k : SK} {g : GV} {x : Value} (h : fitG k g = true) (hx : RepG I μ g x) : RepG I μ (.c (buildC k (pickG k g))) x := by
  cases g with
  | c v => exact fitC_rep h hx
  | agg cs =>
    cases k with
    | pv =>
      have h' : (GV.agg cs).pure?.isSome = true := h
      obtain ⟨y, hy⟩ := Option.isSome_iff_exists.1 h'
      have : pickG .pv (.agg cs) = y := by simp [pickG, hy]
      rw [this]
      exact pure_rep hy hx
    | _ => simp [fitG] at h
  | tup cs =>
    cases k with
    | pv => simp [fitG, GV.pure?] at h
    | _ => simp [fitG] at h
theorem fitCs_rep {I : Mem} {μ : Locs} : ∀ {ks : List SK} {cs : List CV} {vs : List Value} {pre post : List PV}, fitCs ks cs = true → RepCs I μ cs vs → RepCs I μ (buildCs ks pre.length (pre ++ (pickCs ks cs ++ post))) vs ∧ (pickCs ks cs).length = ks.length
  | [], [], vs, pre, post, _, h => ⟨h, rfl⟩
  | k :: ks, c :: cs, vs, pre, post, h, hr => by
    simp only [fitCs, Bool.and_eq_true] at h
    obtain ⟨hl, hrep⟩ := hr
    cases vs with
    | nil => simp at hl
    | cons v vs =>
      have h0 := hrep 0 c (by simp)
      have hr' : RepCs I μ cs vs := ⟨by simpa using hl, fun i u hu => by simpa using hrep (i + 1) u (by simpa using hu)⟩
      obtain ⟨i1, i2⟩ := fitCs_rep (pre := pre ++ [pickC k c]) (post := post) h.2 hr'
      have e1 : (pre ++ [pickC k c]).length = pre.length + 1 := by simp
      have e2 : pre ++ [pickC k c] ++ (pickCs ks cs ++ post) = pre ++ (pickCs (k :: ks) (c :: cs) ++ post) := by simp [pickCs]
      rw [e1, e2] at i1
      refine ⟨⟨?_, ?_⟩, by simp [pickCs, i2]⟩
      · simp only [buildCs, List.length_cons]
        rw [i1.1]
      · intro i u hu
        cases i with
        | zero =>
          simp only [buildCs, List.getElem?_cons_zero, Option.some.injEq] at hu
          subst hu
          have e3 : (pre ++ (pickCs (k :: ks) (c :: cs) ++ post)).getD pre.length .any = pickC k c := by simp [pickCs]
          rw [e3]
          simp only [List.getD_cons_zero] at h0 ⊢
          exact ⟨fitC_rep h.1 h0.1, h0.2⟩
        | succ i => simpa using i1.2 i u (by simpa [buildCs] using hu)
  | [], _ :: _, _, _, _, h, _ => by simp [fitCs] at h
  | _ :: _, [], _, _, _, h, _ => by simp [fitCs] at h
theorem pickO_cnt {k : OK} {o : Ob} (h : fitO k o = true) : (pickO k o).length = k.cnt := by
  cases k <;> cases o <;> first
    | (simp [fitO] at h; done)
    | rfl
    | skip
  rename_i ks cs
  simp only [pickO, OK.cnt]
  have : ∀ (ks : List SK) (cs : List CV), fitCs ks cs = true → (pickCs ks cs).length = ks.length := by
    intro ks
    induction ks with
    | nil => intro cs h; rfl
    | cons k ks ih =>
      intro cs h
      cases cs with
      | nil => simp [fitCs] at h
      | cons c cs =>
        simp only [fitCs, Bool.and_eq_true] at h
        simp [pickCs, ih cs h.2]
  exact this ks cs h
theorem fitO_ok {X : Cx} {I : Mem} {μ : Locs} {w : World} {r : Nat} {k : OK} {o : Ob} {pre post : List PV} (h : fitO k o = true) (ho : ObOk X I μ w r o) : ObOk X I μ w r (buildO k pre.length (pre ++ (pickO k o ++ post))) ∧ (buildO k pre.length (pre ++ (pickO k o ++ post))).isBld = o.isBld ∧
    (buildO k pre.length (pre ++ (pickO k o ++ post))).isByte X.E = o.isByte X.E := by
  cases k with
  | box ks =>
    cases o with
    | box cs =>
      obtain ⟨b, arr, T, h1, h2, h3, h4, h5⟩ := ho
      exact ⟨⟨b, arr, T, h1, h2, h3, h4, (fitCs_rep (show fitCs ks cs = true from h) h5).1⟩, rfl, rfl⟩
    | _ => simp [fitO] at h
  | row e =>
    cases o with
    | row e' es =>
      have e1 : e = e' := by simpa [fitO] using h
      subst e1
      have : buildO (.row e) pre.length (pre ++ (pickO (.row e) (.row e es) ++ post)) = .row e es := by simp [buildO, pickO, slOf]
      rw [this]
      exact ⟨ho, rfl, rfl⟩
    | _ => simp [fitO] at h
  | bld =>
    cases o with
    | bld s =>
      have : buildO .bld pre.length (pre ++ (pickO .bld (.bld s) ++ post)) = .bld s := by simp [buildO, pickO, strOf]
      rw [this]
      exact ⟨ho, rfl, rfl⟩
    | _ => simp [fitO] at h
theorem fitT_look {st : St} {i : Nat} {v : GV} : ∀ {l : List (Nat × SK)} {pre post : List PV}, fitT st l = true → look (buildT l pre.length (pre ++ (pickT st l ++ post))) i = some v → ∃ k, fitG k (st.get i) = true ∧ v = .c (buildC k (pickG k (st.get i)))
  | [], pre, post, _, h => by simp [buildT, look] at h
  | x :: l, pre, post, hf, h => by
    simp only [fitT, Bool.and_eq_true] at hf
    simp only [buildT, look_cons] at h
    by_cases e : i = x.1
    · rw [if_pos e] at h
      injection h with h
      refine ⟨x.2, e ▸ hf.1, ?_⟩
      rw [← h, e]
      simp [pickT]
    · rw [if_neg e] at h
      have e1 : (pre ++ [pickG x.2 (st.get x.1)]).length = pre.length + 1 := by simp
      have e2 : pre ++ [pickG x.2 (st.get x.1)] ++ (pickT st l ++ post) = pre ++ (pickT st (x :: l) ++ post) := by simp [pickT]
      exact fitT_look (pre := pre ++ [pickG x.2 (st.get x.1)]) hf.2 (by rw [e1, e2]; exact h)
theorem fitH_look {X : Cx} {I : Mem} {μ : Locs} {w : World} {hp : List (Nat × Ob)} (hok : ∀ r o, look hp r = some o → ObOk X I μ w r o) {r : Nat} {o : Ob} : ∀ {l : List (Nat × OK)} {pre post : List PV}, fitH hp l = true → look (buildH l pre.length (pre ++ (pickH hp l ++ post))) r = some o →
    ∃ p, look hp r = some p ∧ ObOk X I μ w r o ∧ o.isBld = p.isBld ∧ o.isByte X.E = p.isByte X.E
  | [], pre, post, _, h => by simp [buildH, look] at h
  | x :: l, pre, post, hf, h => by
    simp only [fitH, Bool.and_eq_true] at hf
    obtain ⟨hf1, hf2⟩ := hf
    split at hf1
    · rename_i p hp'
      simp only [buildH, look_cons] at h
      have hpk : pickH hp (x :: l) = pickO x.2 p ++ pickH hp l := by simp [pickH, hp']
      rw [hpk] at h
      by_cases e : r = x.1
      · rw [if_pos e] at h
        injection h with h
        subst e
        obtain ⟨k1, k2, k3⟩ := fitO_ok (pre := pre) (post := pickH hp l ++ post) hf1 (hok _ p hp')
        have e2 : pre ++ (pickO x.2 p ++ (pickH hp l ++ post)) = pre ++ (pickO x.2 p ++ pickH hp l ++ post) := by simp
        rw [e2] at k1 k2 k3
        rw [← h]
        exact ⟨p, hp', k1, k2, k3⟩
      · rw [if_neg e] at h
        have e1 : (pre ++ pickO x.2 p).length = pre.length + x.2.cnt := by simp [pickO_cnt hf1]
        have e2 : pre ++ pickO x.2 p ++ (pickH hp l ++ post) = pre ++ (pickO x.2 p ++ pickH hp l ++ post) := by simp
        exact fitH_look hok (pre := pre ++ pickO x.2 p) hf2 (by rw [e1, e2]; exact h)
    · cases hf1
theorem pickT_length (st : St) : ∀ l : List (Nat × SK), (pickT st l).length = l.length
  | [] => rfl
  | x :: l => by simp [pickT, pickT_length st l]
theorem Shape.weak {E : Env} {sh : Shape} {st : St} (h : sh.fits (sh.still E st) = true) : Weak E st (sh.build (sh.pick (sh.still E st))) := by
  intro X n I μ0 a w hX hr hs
  subst hX
  obtain ⟨μ, hμ, hs⟩ := hs.ownAll sh.own hr
  obtain ⟨J, h1, h2⟩ := hs.freezeAll (sh.rows (st.ownAll X.E sh.own))
  refine ⟨J, μ, h1, hμ, ?_⟩
  have h2' : Sim X n J μ (sh.still X.E st) a w := h2
  generalize sh.still X.E st = st' at h h2'
  simp only [Shape.fits, Bool.and_eq_true] at h
  have key : ∀ r o, look (sh.build (sh.pick st')).h r = some o → ∃ p, look st'.h r = some p ∧ ObOk X J μ w r o ∧ o.isBld = p.isBld ∧ o.isByte X.E = p.isByte X.E := by
    intro r o ho
    refine fitH_look h2'.h.ok (l := sh.h) (pre := pickT st' sh.t) (post := []) h.2 ?_
    rw [pickT_length, List.append_nil]
    exact ho
  refine ⟨h2'.size, h2'.defers, fun i v hv => ?_, ⟨?_, ?_, ?_, ?_, ?_⟩, h2'.im, h2'.bw, h2'.fr, h2'.cx, h2'.base⟩
  · obtain ⟨k, k1, rfl⟩ := fitT_look (st := st') (l := sh.t) (pre := []) (post := pickH st'.h sh.h) h.1 (by simpa [Shape.build, Shape.pick] using hv)
    exact fitG_rep k1 (h2'.get i)
  · intro r o ho; obtain ⟨p, _, k, _⟩ := key r o ho; exact k
  · intro r r' o o' l l' b ho ho' hne hl hl' hb
    obtain ⟨p, k1, _⟩ := key r o ho
    obtain ⟨p', k1', _⟩ := key r' o' ho'
    exact h2'.h.apart r r' p p' l l' b k1 k1' hne hl hl' hb
  · intro r o l b ho hl hb; obtain ⟨p, k1, _⟩ := key r o ho; exact h2'.h.imm r p l b k1 hl hb
  · intro r o l b ho hl hb; obtain ⟨p, k1, _⟩ := key r o ho; exact h2'.h.own r p l b k1 hl hb
  · intro r r' o o' ho ho' hne hb
    obtain ⟨p, k1, _, k2, _⟩ := key r o ho
    obtain ⟨p', k1', _, k2', k3'⟩ := key r' o' ho'
    rw [k2] at hb
    rw [k2', k3']
    exact h2'.h.alone r r' p p' k1 k1' hne hb
theorem Shape.mask_weak (E : Env) (sh : Shape) (st : St) : Weak E st (sh.mask E st) := by
  unfold Shape.mask
  cases h : sh.fits (sh.still E st)
  · exact Weak.refl E st
  · exact Shape.weak h
/-! Arguments. -/
inductive AK where
  | int (k : IntKind)
  | bool
  | str
  | pv
  | sl (c : Nat)
def fitA : AK → PV → Bool
  | .int k, x => isInt k x
  | .bool, x => isBool x
  | .str, x => isStr x
  | .pv, _ => true
  | .sl c, x => isSl c x
def canonA : AK → PV → PV
  | .int k, x => .int k (intOf x)
  | .bool, x => .bool (boolOf x)
  | .str, x => .str (strOf x)
  | .pv, x => x
  | .sl c, x => .sl c (slOf x)
def fitArgs : List AK → List PV → Bool
  | [], [] => true
  | k :: l, x :: m => fitA k x && fitArgs l m
  | _, _ => false
def canonArgs : List AK → Nat → List PV → List PV
  | [], _, _ => []
  | k :: l, j, vs => canonA k (vs.getD j .any) :: canonArgs l (j + 1) vs
theorem canonA_eq {k : AK} {x : PV} (h : fitA k x = true) : canonA k x = x := by
  cases k with
  | int k => exact (isInt_inv h).symm
  | bool => cases x <;> first | rfl | (simp [fitA, isBool] at h)
  | str => cases x <;> first | rfl | (simp [fitA, isStr] at h)
  | pv => rfl
  | sl c => exact (isSl_inv h).symm
theorem canonArgs_eq : ∀ {ks : List AK} {vs pre : List PV}, fitArgs ks vs = true → canonArgs ks pre.length (pre ++ vs) = vs
  | [], [], pre, _ => rfl
  | k :: ks, x :: vs, pre, h => by
    simp only [fitArgs, Bool.and_eq_true] at h
    have ih := canonArgs_eq (pre := pre ++ [x]) h.2
    have e1 : (pre ++ [x]).length = pre.length + 1 := by simp
    have e2 : pre ++ [x] ++ vs = pre ++ x :: vs := by simp
    rw [e1, e2] at ih
    simp only [canonArgs, ih]
    have e3 : (pre ++ x :: vs).getD pre.length .any = x := by simp
    rw [e3, canonA_eq h.1]
  | [], _ :: _, _, h => by simp [fitArgs] at h
  | _ :: _, [], _, h => by simp [fitArgs] at h
def argG (ks : List AK) (F : List PV → Cps GV) : List PV → Cps GV := fun vs R K => bif fitArgs ks vs then F vs R K else none
theorem argG_ok {ks : List AK} {F : List PV → Cps GV} {X : List PV → Cps GV} (h : ∀ vs R K, F vs R K = X (canonArgs ks 0 vs) R K) : ∀ vs, (∀ R K, argG ks F vs R K = none) ∨ ∀ R K, argG ks F vs R K = X vs R K := by
  intro vs
  unfold argG
  cases hf : fitArgs ks vs
  · exact .inl fun R K => rfl
  · refine .inr fun R K => ?_
    simp only [cond_true]
    rw [h]
    have := canonArgs_eq (pre := []) hf
    simp only [List.length_nil, List.nil_append] at this
    rw [this]
theorem cut_ok {R : Type} {E : Env} {n : Nat} {ρ : FuncId → Option (Callee R)} {Λ : Nat → Option (Wrap R)} {b : Code} {sh : Shape} {M : Exit → St → St} {J : List PV → (Exit → St → Option R) → Option R} (hM : ∀ e st, Weak E st (M e st))
    (h : ∀ vs K, exec E n ρ Λ b (sh.build vs) (fun e st => K e (M e st)) = J vs K) : CutOk E n ρ Λ b (wrap E sh J) := by
  intro st K r hr
  unfold wrap at hr
  cases hf : sh.fits (sh.still E st)
  · rw [hf] at hr; exact absurd hr (by simp)
  · simp only [hf, cond_true] at hr
    exact ⟨_, M, Shape.weak hf, hM, by rw [h]; exact hr⟩
end Go.Dip
end
/- An ideal semantics of the model's code, part 32: callees and loops in chains; functions, level by level. -/
section
set_option linter.unusedVariables false
set_option linter.unusedSimpArgs false
namespace Go.Dip
abbrev PureG := List PV → Cps GV
abbrev HeapG := List GV → List (Nat × Ob) → (R : Type) → (GV → List (Nat × Ob) → Option R) → Option R
section
variable {P : Program} {E : Env} {tB : TypeId} {W0 : World}
structure PureOk (P : Program) (E : Env) (W0 : World) (g : FuncId) (G : PureG) : Prop where
  en : Enters P g
  nat : ∀ vs, IsNat (G vs)
  ok : ∀ vs v, G vs GV some = some v → PureFn P E W0 g vs v
structure HeapGOk (P : Program) (E : Env) (tB : TypeId) (W0 : World) (g : FuncId) (G : HeapG) : Prop where
  en : Enters P g
  nat : ∀ as H, IsNat2 (G as H)
  ok : ∀ as H v H', G as H (GV × List (Nat × Ob)) (fun v H => some (v, H)) = some (v, H') → HeapFn P E tB W0 g as H v H'
/-! Callees in a chain. -/
def rnil : RhoF := fun _ _ => none
def rp (g : FuncId) (G : PureG) (rest : RhoF) : RhoF := fun R x => bif Nat.beq x g then some (.pure fun vs => G vs R) else rest R x
def rh (g : FuncId) (G : HeapG) (rest : RhoF) : RhoF := fun R x => bif Nat.beq x g then some (.heap fun as H => G as H R) else rest R x
structure RhoAll (P : Program) (E : Env) (tB : TypeId) (W0 : World) (ρ : RhoF) : Prop where
  nat : RhoNat ρ
  ok : ∀ R, RhoOk P E tB W0 (ρ R)
theorem rnil_all : RhoAll P E tB W0 rnil := ⟨fun g => .inl fun R => rfl, fun R g c h => by cases h⟩
theorem PureOk.all {g : FuncId} {G : PureG} {rest : RhoF} (h : PureOk P E W0 g G) (hr : RhoAll P E tB W0 rest) : RhoAll P E tB W0 (rp g G rest) := by
  refine ⟨fun x => ?_, fun R x c hx => ?_⟩
  · by_cases e : x = g
    · refine .inr (.inl ⟨G, fun R => by simp [rp, e], h.nat⟩)
    · rcases hr.nat x with k | ⟨F, k1, k2⟩ | ⟨F, k1, k2⟩
      · exact .inl fun R => by simp [rp, nbeq, e, k R]
      · exact .inr (.inl ⟨F, fun R => by simp [rp, nbeq, e, k1 R], k2⟩)
      · exact .inr (.inr ⟨F, fun R => by simp [rp, nbeq, e, k1 R], k2⟩)
  · simp only [rp, nbeq] at hx
    by_cases e : x = g
    · simp only [e, decide_true, cond_true, Option.some.injEq] at hx
      subst hx
      rw [e]
      refine ⟨h.en, fun vs K r hr' => ?_⟩
      have hn := h.nat vs R K
      have hr' : G vs R K = some r := hr'
      rw [hr'] at hn
      obtain ⟨v, k1, k2⟩ := Option.bind_eq_some_iff.1 hn.symm
      exact ⟨v, k2, h.ok vs v k1⟩
    · simp only [e, decide_false, cond_false] at hx
      exact hr.ok R x c hx
theorem HeapGOk.all {g : FuncId} {G : HeapG} {rest : RhoF} (h : HeapGOk P E tB W0 g G) (hr : RhoAll P E tB W0 rest) : RhoAll P E tB W0 (rh g G rest) := by
  refine ⟨fun x => ?_, fun R x c hx => ?_⟩
  · by_cases e : x = g
    · refine .inr (.inr ⟨G, fun R => by simp [rh, e], h.nat⟩)
    · rcases hr.nat x with k | ⟨F, k1, k2⟩ | ⟨F, k1, k2⟩
      · exact .inl fun R => by simp [rh, nbeq, e, k R]
      · exact .inr (.inl ⟨F, fun R => by simp [rh, nbeq, e, k1 R], k2⟩)
      · exact .inr (.inr ⟨F, fun R => by simp [rh, nbeq, e, k1 R], k2⟩)
  · simp only [rh, nbeq] at hx
    by_cases e : x = g
    · simp only [e, decide_true, cond_true, Option.some.injEq] at hx
      subst hx
      rw [e]
      refine ⟨h.en, fun as H K r hr' => ?_⟩
      have hn := h.nat as H R K
      have hr' : G as H R K = some r := hr'
      rw [hr'] at hn
      obtain ⟨p, k1, k2⟩ := Option.bind_eq_some_iff.1 hn.symm
      exact ⟨p.1, p.2, k2, h.ok as H p.1 p.2 k1⟩
    · simp only [e, decide_false, cond_false] at hx
      exact hr.ok R x c hx
/-! Loops and second parts of a function, in a chain. -/
structure LoopE where
  id : Nat
  sh : Shape
  mask : Exit → St → St
  L : Nat → List PV → (R : Type) → (Exit → St → Option R) → Option R
structure CutE where
  id : Nat
  sh : Shape
  mask : Exit → St → St
  J : Nat → List PV → (R : Type) → (Exit → St → Option R) → Option R
def LoopE.wrap (E : Env) (e : LoopE) (k : Nat) : (R : Type) → Wrap R := fun R => Dip.wrap E e.sh fun vs K => e.L k vs R K
def CutE.wrap (E : Env) (e : CutE) (k : Nat) : (R : Type) → Wrap R := fun R => Dip.wrap E e.sh fun vs K => e.J k vs R K
def lamC (E : Env) (k : Nat) : List CutE → LamF
  | [] => fun _ _ => none
  | e :: l => fun R i => bif Nat.beq i (2 * e.id + 1) then some (e.wrap E k R) else lamC E k l R i
def lam (E : Env) (k : Nat) (cs : List CutE) : List LoopE → LamF
  | [] => lamC E k cs
  | e :: l => fun R i => bif Nat.beq i (2 * e.id) then some (e.wrap E k R) else lam E k cs l R i
def loopAt (c : Code) (i : Nat) : Code := ((loops c).filter fun b => Nat.beq (fr b) i).headD .skip
def secondAt (c : Code) (i : Nat) : Code := ((seconds c).filter fun b => Nat.beq (fr b) i).headD .skip
def onlyLoop (c : Code) (i : Nat) : Bool := Nat.beq ((loops c).filter fun b => Nat.beq (fr b) i).length 1
def onlySecond (c : Code) (i : Nat) : Bool := Nat.beq ((seconds c).filter fun b => Nat.beq (fr b) i).length 1
theorem only_mem {l : List Code} {i : Nat} (h : Nat.beq (l.filter fun b => Nat.beq (fr b) i).length 1 = true) : ∀ b, b ∈ l → fr b = i → b = (l.filter fun b => Nat.beq (fr b) i).headD .skip := by
  intro b hb hi
  rw [nbeq, decide_eq_true_eq] at h
  obtain ⟨x, hx⟩ := List.length_eq_one_iff.1 h
  have : b ∈ l.filter fun b => Nat.beq (fr b) i := by
    rw [List.mem_filter]
    exact ⟨hb, by simp [hi]⟩
  rw [hx] at this ⊢
  simpa using this
theorem only_in {l : List Code} {i : Nat} (h : Nat.beq (l.filter fun b => Nat.beq (fr b) i).length 1 = true) : (l.filter fun b => Nat.beq (fr b) i).headD .skip ∈ l := by
  rw [nbeq, decide_eq_true_eq] at h
  obtain ⟨x, hx⟩ := List.length_eq_one_iff.1 h
  have : x ∈ l.filter fun b => Nat.beq (fr b) i := by rw [hx]; simp
  rw [hx]
  exact (List.mem_filter.1 this).1
theorem loops_sub : ∀ (c : Code) {c' : Code}, c' ∈ loops c → (∀ b, b ∈ loops c' → b ∈ loops c) ∧ ∀ b, b ∈ seconds c' → b ∈ seconds c := by
  intro c
  induction c with
  | seq x y ihx ihy =>
    intro c' h
    simp only [loops, List.mem_append] at h
    rcases h with h | h
    · obtain ⟨h1, h2⟩ := ihx h
      exact ⟨fun b hb => by simp [loops, h1 b hb], fun b hb => by simp [seconds, h2 b hb]⟩
    · obtain ⟨h1, h2⟩ := ihy h
      exact ⟨fun b hb => by simp [loops, h1 b hb], fun b hb => by simp [seconds, h2 b hb]⟩
  | cond o x y ihx ihy =>
    intro c' h
    simp only [loops, List.mem_append] at h
    rcases h with h | h
    · obtain ⟨h1, h2⟩ := ihx h
      exact ⟨fun b hb => by simp [loops, h1 b hb], fun b hb => by simp [seconds, h2 b hb]⟩
    · obtain ⟨h1, h2⟩ := ihy h
      exact ⟨fun b hb => by simp [loops, h1 b hb], fun b hb => by simp [seconds, h2 b hb]⟩
  | block id x ih =>
    intro c' h
    obtain ⟨h1, h2⟩ := ih (by simpa [loops] using h)
    exact ⟨fun b hb => by simpa [loops] using h1 b hb, fun b hb => by simpa [seconds] using h2 b hb⟩
  | scope x ih =>
    intro c' h
    obtain ⟨h1, h2⟩ := ih (by simpa [loops] using h)
    exact ⟨fun b hb => by simpa [loops] using h1 b hb, fun b hb => by simpa [seconds] using h2 b hb⟩
  | loop x ih =>
    intro c' h
    simp only [loops, List.mem_cons] at h
    rcases h with rfl | h
    · exact ⟨fun b hb => by simp [loops, hb], fun b hb => by simpa [seconds] using hb⟩
    · obtain ⟨h1, h2⟩ := ih h
      exact ⟨fun b hb => by simp [loops, h1 b hb], fun b hb => by simpa [seconds] using h2 b hb⟩
  | _ => intro c' h; simp [loops] at h
theorem lamC_some {k : Nat} : ∀ {cs : List CutE} {R : Type} {i : Nat} {W : Wrap R}, lamC E k cs R i = some W → ∃ e, e ∈ cs ∧ i = 2 * e.id + 1 ∧ W = e.wrap E k R
  | [], R, i, W, h => by cases h
  | e :: l, R, i, W, h => by
    simp only [lamC, nbeq] at h
    by_cases hi : i = 2 * e.id + 1
    · simp only [hi, decide_true, cond_true, Option.some.injEq] at h
      exact ⟨e, by simp, hi, h.symm⟩
    · simp only [hi, decide_false, cond_false] at h
      obtain ⟨e', h1, h2⟩ := lamC_some h
      exact ⟨e', by simp [h1], h2⟩
theorem lam_some {k : Nat} {cs : List CutE} : ∀ {ls : List LoopE} {R : Type} {i : Nat} {W : Wrap R}, lam E k cs ls R i = some W → (∃ e, e ∈ ls ∧ i = 2 * e.id ∧ W = e.wrap E k R) ∨ ∃ e, e ∈ cs ∧ i = 2 * e.id + 1 ∧ W = e.wrap E k R
  | [], R, i, W, h => .inr (lamC_some h)
  | e :: l, R, i, W, h => by
    simp only [lam, nbeq] at h
    by_cases hi : i = 2 * e.id
    · simp only [hi, decide_true, cond_true, Option.some.injEq] at h
      exact .inl ⟨e, by simp, hi, h.symm⟩
    · simp only [hi, decide_false, cond_false] at h
      rcases lam_some h with ⟨e', h1, h2⟩ | h'
      · exact .inl ⟨e', by simp [h1], h2⟩
      · exact .inr h'
structure Tower (E : Env) (n : Nat) (c : Code) (ρ : Nat → RhoF) (ls : List LoopE) (cs : List CutE) : Prop where
  only : ∀ e, e ∈ ls → onlyLoop c e.id = true
  onlyC : ∀ e, e ∈ cs → onlySecond c e.id = true
  zero : ∀ e, e ∈ ls → ∀ vs R K, e.L 0 vs R K = none
  mask : ∀ e, e ∈ ls → ∀ x st, Weak E st (e.mask x st)
  loop : ∀ e, e ∈ ls → ∀ k vs R (K : Exit → St → Option R), e.L (k + 1) vs R K = exec E n (ρ k R) (lam E k cs ls R) (loopAt c e.id) (e.sh.build vs) fun x st => match x with
    | .normal => e.wrap E k R st K
    | x => K x (e.mask x st)
  maskC : ∀ e, e ∈ cs → ∀ x st, Weak E st (e.mask x st)
  cut : ∀ e, e ∈ cs → ∀ k vs R (K : Exit → St → Option R), e.J k vs R K = exec E n (ρ k R) (lam E k cs ls R) (secondAt c e.id) (e.sh.build vs) fun x st => K x (e.mask x st)
theorem wrap_nat {sh : Shape} {L : List PV → (R : Type) → (Exit → St → Option R) → Option R} (h : ∀ vs, IsNat2 (L vs)) (st : St) : IsNat2 (fun R K => wrap E sh (fun vs K => L vs R K) st K) := IsNat2.bif _ (h _) .none
theorem lamC_key (k : Nat) : ∀ (cs : List CutE) (i : Nat), (∀ R, lamC E k cs R i = none) ∨ ∃ e, e ∈ cs ∧ i = 2 * e.id + 1 ∧ ∀ R, lamC E k cs R i = some (e.wrap E k R)
  | [], i => .inl fun R => rfl
  | e :: l, i => by
    by_cases hi : i = 2 * e.id + 1
    · exact .inr ⟨e, by simp, hi, fun R => by simp [lamC, nbeq, hi]⟩
    · rcases lamC_key k l i with h | ⟨e', h1, h2, h3⟩
      · exact .inl fun R => by simp [lamC, nbeq, hi, h R]
      · exact .inr ⟨e', by simp [h1], h2, fun R => by simp only [lamC, nbeq, hi, decide_false, cond_false]; exact h3 R⟩
theorem lam_key (k : Nat) (cs : List CutE) : ∀ (ls : List LoopE) (i : Nat), (∀ R, lam E k cs ls R i = none) ∨ (∃ e, e ∈ ls ∧ i = 2 * e.id ∧ ∀ R, lam E k cs ls R i = some (e.wrap E k R)) ∨ ∃ e, e ∈ cs ∧ i = 2 * e.id + 1 ∧ ∀ R, lam E k cs ls R i = some (e.wrap E k R)
  | [], i => by
    rcases lamC_key (E := E) k cs i with h | h
    · exact .inl h
    · exact .inr (.inr h)
  | e :: l, i => by
    by_cases hi : i = 2 * e.id
    · exact .inr (.inl ⟨e, by simp, hi, fun R => by simp [lam, nbeq, hi]⟩)
    · rcases lam_key k cs l i with h | ⟨e', h1, h2, h3⟩ | ⟨e', h1, h2, h3⟩
      · exact .inl fun R => by simp [lam, nbeq, hi, h R]
      · exact .inr (.inl ⟨e', by simp [h1], h2, fun R => by simp only [lam, nbeq, hi, decide_false, cond_false]; exact h3 R⟩)
      · exact .inr (.inr ⟨e', h1, h2, fun R => by simp only [lam, nbeq, hi, decide_false, cond_false]; exact h3 R⟩)
section
variable {n : Nat} {c : Code} {ρ : Nat → RhoF} {ls : List LoopE} {cs : List CutE}
theorem Tower.cutsNat (T : Tower E n c ρ ls cs) {k : Nat} (hρ : RhoNat (ρ k)) (hl : ∀ c', c' ∈ loops c → KeyNat (lam E k cs ls) (2 * fr c')) : ∀ c0 : Code, (∀ b, b ∈ loops c0 → b ∈ loops c) → (∀ b, b ∈ seconds c0 → b ∈ seconds c) → ∀ b, b ∈ seconds c0 → KeyNat (lam E k cs ls) (2 * fr b + 1) := by
  intro c0
  induction c0 with
  | seq x y ihx ihy =>
    intro h1 h2 b hb
    have ix := ihx (fun b hb => h1 b (by simp [loops, hb])) (fun b hb => h2 b (by simp [seconds, hb]))
    have iy := ihy (fun b hb => h1 b (by simp [loops, hb])) (fun b hb => h2 b (by simp [seconds, hb]))
    simp only [seconds, List.mem_cons, List.mem_append] at hb
    rcases hb with rfl | hb | hb
    · rcases lam_key (E := E) k cs ls (2 * fr b + 1) with h | ⟨e, e1, e2, _⟩ | ⟨e, e1, e2, e3⟩
      · exact .inl h
      · omega
      · refine .inr ⟨e.wrap E k, e3, fun st => wrap_nat (fun vs => ?_) st⟩
        have hid : fr b = e.id := by omega
        have hbe : b = secondAt c e.id := only_mem (T.onlyC e e1) b (h2 b (by simp [seconds])) hid
        intro R K
        rw [T.cut e e1, T.cut e e1, ← hbe]
        exact ((exec_nat E n hρ b ⟨fun c' hc => hl c' (h1 c' (by simp [loops, hc])), iy⟩ (e.sh.build vs)).comp2 fun x st => .ret _ _) R K
    · exact ix b hb
    · exact iy b hb
  | cond o x y ihx ihy =>
    intro h1 h2 b hb
    have ix := ihx (fun b hb => h1 b (by simp [loops, hb])) (fun b hb => h2 b (by simp [seconds, hb]))
    have iy := ihy (fun b hb => h1 b (by simp [loops, hb])) (fun b hb => h2 b (by simp [seconds, hb]))
    simp only [seconds, List.mem_append] at hb
    rcases hb with hb | hb
    · exact ix b hb
    · exact iy b hb
  | block id x ih =>
    intro h1 h2 b hb
    exact ih (fun b hb => h1 b (by simpa [loops] using hb)) (fun b hb => h2 b (by simpa [seconds] using hb)) b (by simpa [seconds] using hb)
  | scope x ih =>
    intro h1 h2 b hb
    exact ih (fun b hb => h1 b (by simpa [loops] using hb)) (fun b hb => h2 b (by simpa [seconds] using hb)) b (by simpa [seconds] using hb)
  | loop x ih =>
    intro h1 h2 b hb
    exact ih (fun b hb => h1 b (by simp [loops, hb])) (fun b hb => h2 b (by simpa [seconds] using hb)) b (by simpa [seconds] using hb)
  | _ => intro h1 h2 b hb; simp [seconds] at hb
theorem Tower.keys (T : Tower E n c ρ ls cs) {k : Nat} (h : ∀ e, e ∈ ls → ∀ st, IsNat2 (fun R K => e.wrap E k R st K)) : ∀ c', c' ∈ loops c → KeyNat (lam E k cs ls) (2 * fr c') := by
  intro c' hc
  rcases lam_key (E := E) k cs ls (2 * fr c') with h' | ⟨e, e1, e2, e3⟩ | ⟨e, e1, e2, e3⟩
  · exact .inl h'
  · exact .inr ⟨e.wrap E k, e3, h e e1⟩
  · omega
theorem Tower.loopsNat (T : Tower E n c ρ ls cs) : ∀ k, (∀ j, j < k → RhoNat (ρ j)) → ∀ e, e ∈ ls → ∀ st, IsNat2 (fun R K => e.wrap E k R st K) := by
  intro k
  induction k with
  | zero => intro _ e he st; exact wrap_nat (fun vs R K => by rw [T.zero e he, T.zero e he]; rfl) st
  | succ k ih =>
    intro hρ e he st
    have hself := ih fun j hj => hρ j (by omega)
    have hl := T.keys hself
    have hcut := T.cutsNat (hρ k (by omega)) hl c (fun _ h => h) (fun _ h => h)
    refine wrap_nat (fun vs R K => ?_) st
    obtain ⟨s1, s2⟩ := loops_sub c (only_in (T.only e he))
    have hN : LamNat (lam E k cs ls) (loopAt c e.id) := ⟨fun b hb => hl b (s1 b hb), fun b hb => hcut b (s2 b hb)⟩
    rw [T.loop e he, T.loop e he]
    refine ((exec_nat E n (hρ k (by omega)) (loopAt c e.id) hN (e.sh.build vs)).comp2 (h := fun x st R K => match x with | .normal => e.wrap E k R st K | x => K x (e.mask x st)) fun x st => ?_) R K
    cases x with
    | normal => exact hself e he st
    | _ => exact .ret _ _
theorem Tower.nat (T : Tower E n c ρ ls cs) (k : Nat) (hρ : ∀ j, j ≤ k → RhoNat (ρ j)) : LamNat (lam E k cs ls) c := by
  have hl := T.keys (T.loopsNat k fun j hj => hρ j (by omega))
  exact ⟨hl, T.cutsNat (hρ k (Nat.le_refl k)) hl c (fun _ h => h) (fun _ h => h)⟩
theorem Tower.cutsOk (T : Tower E n c ρ ls cs) (k : Nat) (R : Type) : ∀ b, b ∈ seconds c → ∀ J, lam E k cs ls R (2 * fr b + 1) = some J → CutOk E n (ρ k R) (lam E k cs ls R) b J := by
  intro b hb J hJ
  rcases lam_some hJ with ⟨e, e1, e2, e3⟩ | ⟨e, e1, e2, e3⟩
  · omega
  · have hbe : b = secondAt c e.id := only_mem (T.onlyC e e1) b hb (by omega)
    rw [e3]
    exact cut_ok (T.maskC e e1) fun vs K => by rw [T.cut e e1, hbe]
theorem Tower.loopsOk (hE : EnvOk P E tB) (T : Tower E n c ρ ls cs) (R : Type) : ∀ k, (∀ j, j < k → RhoOk P E tB W0 (ρ j R)) → ∀ c', c' ∈ loops c → ∀ L, lam E k cs ls R (2 * fr c') = some L → LoopOk P E tB W0 n c' L := by
  intro k
  induction k using Nat.strongRecOn with
  | _ k ih =>
    intro hρ c' hc L hL
    rcases lam_some hL with ⟨e, e1, e2, e3⟩ | ⟨e, e1, e2, e3⟩
    · have hce : c' = loopAt c e.id := only_mem (T.only e e1) c' hc (by omega)
      rw [e3]
      obtain ⟨s1, s2⟩ := loops_sub c hc
      refine loop_ok (X := fun k => e.wrap E k R) (ρ := fun k => ρ k R) (Λ := fun k => lam E k cs ls R) hE ?_ ?_ k ?_
      · intro st K
        show wrap E e.sh (fun vs K => e.L 0 vs R K) st K = none
        unfold wrap
        cases e.sh.fits (e.sh.still E st)
        · rfl
        · exact T.zero e e1 _ R K
      · intro j st K r h
        have h' : wrap E e.sh (fun vs K => e.L (j + 1) vs R K) st K = some r := h
        unfold wrap at h'
        cases hf : e.sh.fits (e.sh.still E st)
        · rw [hf] at h'; exact absurd h' (by simp)
        · simp only [hf, cond_true] at h'
          rw [T.loop e e1] at h'
          exact ⟨_, e.mask, Shape.weak hf, T.mask e e1, by rw [hce]; exact h'⟩
      · intro j hj
        exact ⟨hρ j hj, fun c2 hc2 L2 hL2 => ih j hj (fun i hi => hρ i (by omega)) c2 (s1 c2 hc2) L2 hL2, fun b hb J hJ => T.cutsOk j R b (s2 b hb) J hJ⟩
    · omega
theorem Tower.pure (hE : EnvOk P E tB) {f : FuncId} {fn : Func} (T : Tower E fn.ntmps c ρ ls cs) (hf : P.funcs[f]? = some fn) (hb : fn.body = some c) (hn : (fn.name == "runtime.NumGoroutine") = false) {k : Nat} (hρ : ∀ j, j ≤ k → RhoAll P E tB W0 (ρ j)) {G : PureG}
    (hG : ∀ vs, (∀ R K, G vs R K = none) ∨ ∀ R K, G vs R K = execPure E (ρ k R) (lam E k cs ls R) fn vs K) : PureOk P E W0 f G := by
  have hN := T.nat k fun j hj => (hρ j hj).nat
  refine ⟨enters_of hf hn (by rw [hb]; rfl), fun vs => ?_, fun vs v h => ?_⟩
  · rcases hG vs with h | h
    · intro R K; rw [h, h]; rfl
    · intro R K
      rw [h, h]
      exact execPure_nat E (hρ k (Nat.le_refl k)).nat fn (fun c' hc => by rw [hb] at hc; injection hc with hc; rw [← hc]; exact hN) vs R K
  · rcases hG vs with h' | h'
    · rw [h'] at h; cases h
    · rw [h'] at h
      exact pureFn_of hE (hρ k (Nat.le_refl k)).nat hN (fun R => (hρ k (Nat.le_refl k)).ok R) hf hb (fun R => T.loopsOk hE R k fun j hj => (hρ j (by omega)).ok R) (fun R => T.cutsOk k R) h
theorem Tower.heap (hE : EnvOk P E tB) {f : FuncId} {fn : Func} (T : Tower E fn.ntmps c ρ ls cs) (hf : P.funcs[f]? = some fn) (hb : fn.body = some c) (hn : (fn.name == "runtime.NumGoroutine") = false) {k : Nat} (hρ : ∀ j, j ≤ k → RhoAll P E tB W0 (ρ j)) {G : HeapG}
    (hG : ∀ as H, (∀ R K, G as H R K = none) ∨ ∀ R K, G as H R K = execHeap E (ρ k R) (lam E k cs ls R) fn as H K) : HeapGOk P E tB W0 f G := by
  have hN := T.nat k fun j hj => (hρ j hj).nat
  refine ⟨enters_of hf hn (by rw [hb]; rfl), fun as H => ?_, fun as H v H' h => ?_⟩
  · rcases hG as H with h | h
    · intro R K; rw [h, h]; rfl
    · intro R K
      rw [h, h]
      exact execHeap_nat E (hρ k (Nat.le_refl k)).nat fn (fun c' hc => by rw [hb] at hc; injection hc with hc; rw [← hc]; exact hN) as H R K
  · rcases hG as H with h' | h'
    · rw [h'] at h; cases h
    · rw [h'] at h
      exact heapFn_of hE (fun R => (hρ k (Nat.le_refl k)).ok R) hf hb (fun R => T.loopsOk hE R k fun j hj => (hρ j (by omega)).ok R) (fun R => T.cutsOk k R) h
end
end
end Go.Dip
end
/- An ideal semantics of the model's code, part 33: what a program of functions puts together. -/
section
set_option linter.unusedVariables false
set_option linter.unusedSimpArgs false
namespace Go.Dip
/-! States at exits. -/
def noSh : Shape := ⟨[], [], []⟩
def maskOf (E : Env) (xs : List (Nat × Shape)) (ret nrm : Shape) : Exit → St → St
  | .exit j, st => match look xs j with
    | some sh => sh.mask E st
    | none => st
  | .ret, st => ret.mask E st
  | .normal, st => nrm.mask E st
  | _, st => st
theorem maskOf_weak (E : Env) (xs : List (Nat × Shape)) (ret nrm : Shape) (x : Exit) (st : St) : Weak E st (maskOf E xs ret nrm x st) := by
  unfold maskOf
  split
  · split
    · exact @Shape.mask_weak E _ st
    · exact @Weak.refl E st
  · exact @Shape.mask_weak E _ st
  · exact @Shape.mask_weak E _ st
  · exact @Weak.refl E st
def AllL {α : Type 1} (p : α → Prop) (l : List α) : Prop := ∀ x, x ∈ l → p x
theorem AllL.nil {α : Type 1} {p : α → Prop} : AllL p [] := fun x h => by cases h
theorem AllL.cons {α : Type 1} {p : α → Prop} {x : α} {l : List α} (h : p x) (k : AllL p l) : AllL p (x :: l) := fun y hy => by
  rcases List.mem_cons.1 hy with rfl | hy
  · exact h
  · exact k y hy
/-! Objects that are handed, told by a shape. -/
def Shape.asOf (sh : Shape) (n : Nat) (vs : List PV) : List GV := (List.range n).map fun i => (look (buildT sh.t 0 vs) i).getD .any
def Shape.hOf (sh : Shape) (vs : List PV) : List (Nat × Ob) := buildH sh.h sh.t.length vs
def Shape.fitsH (sh : Shape) (n : Nat) (as : List GV) (H : List (Nat × Ob)) : Bool :=
  Nat.beq as.length n && (listEq (H.map fun x => x.1) (sh.h.map fun x => x.1) && (distinct (H.map fun x => x.1) && sh.fits ⟨args0 0 as, H⟩))
def argH (n : Nat) (sh : Shape) (F : List PV → (R : Type) → (GV → List (Nat × Ob) → Option R) → Option R) : HeapG := fun as H R K => bif sh.fitsH n as H then F (sh.pick ⟨args0 0 as, H⟩) R K else none
theorem args0_at : ∀ (l : List GV) (j i : Nat), look (args0 j l) (j + i) = l[i]?
  | [], j, i => by simp [args0, look]
  | v :: l, j, i => by
    simp only [args0, look_cons]
    cases i with
    | zero => simp
    | succ i =>
      rw [if_neg (by simp)]
      have := args0_at l (j + 1) i
      rw [show j + 1 + i = j + (i + 1) by omega] at this
      rw [this]
      simp
theorem buildH_keys : ∀ (l : List (Nat × OK)) (j : Nat) (vs : List PV), (buildH l j vs).map (fun x => x.1) = l.map fun x => x.1
  | [], _, _ => rfl
  | x :: l, j, vs => by simp [buildH, buildH_keys l]
theorem look_isSome {α : Type} : ∀ (l : List (Nat × α)) (i : Nat), (look l i).isSome = true ↔ i ∈ l.map fun x => x.1
  | [], i => by simp [look]
  | x :: l, i => by
    rw [look_cons]
    by_cases e : i = x.1
    · simp [e]
    · rw [if_neg e, look_isSome l i]; simp [e]
theorem look_distinct {α : Type} : ∀ {l : List (Nat × α)} {x : Nat × α}, distinct (l.map fun x => x.1) = true → x ∈ l → look l x.1 = some x.2
  | [], x, _, h => by cases h
  | y :: l, x, hd, h => by
    rw [List.map_cons] at hd
    obtain ⟨h1, h2⟩ := distinct_cons hd
    rw [look_cons]
    rcases List.mem_cons.1 h with rfl | h
    · simp
    · have : x.1 ≠ y.1 := fun e => h1 (e ▸ List.mem_map_of_mem h)
      rw [if_neg this]
      exact look_distinct h2 h
section
variable {P : Program} {E : Env} {tB : TypeId} {W0 : World}
theorem HeapFn.told {f : FuncId} {n : Nat} {sh : Shape} {as : List GV} {H H' : List (Nat × Ob)} {v : GV} (hf : sh.fitsH n as H = true)
    (h : HeapFn P E tB W0 f (sh.asOf n (sh.pick ⟨args0 0 as, H⟩)) (sh.hOf (sh.pick ⟨args0 0 as, H⟩)) v H') : HeapFn P E tB W0 f as H v H' := by
  simp only [Shape.fitsH, Bool.and_eq_true, nbeq, decide_eq_true_eq] at hf
  obtain ⟨hn, hk, hd, hft⟩ := hf
  have hk := listEq_iff hk
  simp only [Shape.fits, Bool.and_eq_true] at hft
  generalize hst : (⟨args0 0 as, H⟩ : St) = st at hft h
  have hH : st.h = H := by rw [← hst]
  have ht : ∀ i, i < as.length → st.get i = as.getD i .any := by
    intro i hi
    rw [← hst]
    have := args0_at as 0 i
    rw [Nat.zero_add] at this
    show (look (args0 0 as) i).getD .any = _
    rw [this]
    simp
  have hkeys : (sh.hOf (sh.pick st)).map (fun x => x.1) = H.map fun x => x.1 := by rw [Shape.hOf, buildH_keys, hk]
  have key : ∀ {X : Cx} {I : Mem} {μ : Locs} {w : World}, X.E = E → HeapOk X I μ w H → ∀ r o, look (sh.hOf (sh.pick st)) r = some o → ∃ p, look H r = some p ∧ ObOk X I μ w r o ∧ o.isBld = p.isBld ∧ o.isByte X.E = p.isByte X.E := by
    intro X I μ w hX hh r o ho
    have := fitH_look (X := X) (I := I) (μ := μ) (w := w) (hp := H) hh.ok (r := r) (o := o) (l := sh.h) (pre := pickT st sh.t) (post := []) (by first | exact hft.2 | (rw [← hH]; exact hft.2)) (by
      rw [pickT_length, List.append_nil]
      have e : pickT st sh.t ++ pickH H sh.h = sh.pick st := by rw [Shape.pick, hH]
      rw [e]
      exact ho)
    exact this
  have hblocks : ∀ μ : Locs, blocksOf μ (sh.hOf (sh.pick st)) = blocksOf μ H := by
    intro μ
    funext b
    refine propext ⟨?_, ?_⟩
    · rintro ⟨r, o, l, h1, h2, h3⟩
      have : (look H r).isSome = true := by
        rw [look_isSome, ← hkeys, ← look_isSome, h1]; rfl
      obtain ⟨p, hp⟩ := Option.isSome_iff_exists.1 this
      exact ⟨r, p, l, hp, h2, h3⟩
    · rintro ⟨r, o, l, h1, h2, h3⟩
      have : (look (sh.hOf (sh.pick st)) r).isSome = true := by
        rw [look_isSome, hkeys, ← look_isSome, h1]; rfl
      obtain ⟨p, hp⟩ := Option.isSome_iff_exists.1 this
      exact ⟨r, p, l, hp, h2, h3⟩
  intro X I μ w as' hX hT hW hS hb h1 hcx hro him hB hbel hheap hl ha
  have hbld : hasBld (sh.hOf (sh.pick st)) = hasBld H := by
    have hd' : distinct ((sh.hOf (sh.pick st)).map fun x => x.1) = true := by rw [hkeys]; exact hd
    cases hB1 : hasBld H
    · cases hB2 : hasBld (sh.hOf (sh.pick st))
      · rfl
      · simp only [hasBld, List.any_eq_true] at hB2
        obtain ⟨x, hx, hxb⟩ := hB2
        obtain ⟨p, k1, _, k2, _⟩ := key hX hheap x.1 x.2 (look_distinct hd' hx)
        have : hasBld H = true := by
          simp only [hasBld, List.any_eq_true]
          exact ⟨_, look_mem H _ _ k1, by rw [← k2]; exact hxb⟩
        rw [this] at hB1; cases hB1
    · simp only [hasBld, List.any_eq_true] at hB1
      obtain ⟨x, hx, hxb⟩ := hB1
      have hlk := look_distinct hd hx
      have : (look (sh.hOf (sh.pick st)) x.1).isSome = true := by rw [look_isSome, hkeys, ← look_isSome, hlk]; rfl
      obtain ⟨o, ho⟩ := Option.isSome_iff_exists.1 this
      obtain ⟨p, k1, _, k2, _⟩ := key hX hheap x.1 o ho
      rw [hlk] at k1; injection k1 with k1
      simp only [hasBld, List.any_eq_true]
      exact ⟨_, look_mem _ _ _ ho, by show o.isBld = true; rw [k2, ← k1]; exact hxb⟩
  have hlen : (sh.asOf n (sh.pick st)).length = n := by simp [Shape.asOf]
  refine h X I μ w as' hX hT hW (by rw [hblocks]; exact hS) (by rw [hbld]; exact hb) h1 hcx hro him hB hbel ⟨?_, ?_, ?_, ?_, ?_⟩ (by omega) ?_
  · intro r o ho; obtain ⟨p, _, k, _⟩ := key hX hheap r o ho; exact k
  · intro r r' o o' l l' b ho ho' hne hl hl' hb
    obtain ⟨p, k1, _⟩ := key hX hheap r o ho
    obtain ⟨p', k1', _⟩ := key hX hheap r' o' ho'
    exact hheap.apart r r' p p' l l' b k1 k1' hne hl hl' hb
  · intro r o l b ho hl hb; obtain ⟨p, k1, _⟩ := key hX hheap r o ho; exact hheap.imm r p l b k1 hl hb
  · intro r o l b ho hl hb; obtain ⟨p, k1, _⟩ := key hX hheap r o ho; exact hheap.own r p l b k1 hl hb
  · intro r r' o o' ho ho' hne hb
    obtain ⟨p, k1, _, k2, _⟩ := key hX hheap r o ho
    obtain ⟨p', k1', _, k2', k3'⟩ := key hX hheap r' o' ho'
    rw [k2] at hb
    rw [k2', k3']
    exact hheap.alone r r' p p' k1 k1' hne hb
  · intro i hi
    have hin : i < n := by omega
    have e : (sh.asOf n (sh.pick st)).getD i .any = (look (buildT sh.t 0 (sh.pick st)) i).getD .any := by
      simp [Shape.asOf, List.getD_eq_getElem?_getD, List.getElem?_map, List.getElem?_range hin]
    rw [e]
    cases hlk : look (buildT sh.t 0 (sh.pick st)) i with
    | none => exact RepG.any I μ _
    | some g =>
      obtain ⟨k, k1, rfl⟩ := fitT_look (st := st) (l := sh.t) (pre := []) (post := pickH st.h sh.h) hft.1 (by simpa [Shape.pick] using hlk)
      have := ha i (by omega)
      rw [← ht i (by omega)] at this
      exact fitG_rep k1 this
theorem pureOk_none {f : FuncId} {G : PureG} (he : Enters P f) (h : ∀ vs R K, G vs R K = none) : PureOk P E W0 f G :=
  ⟨he, fun vs R K => by rw [h, h]; rfl, fun vs v k => by rw [h] at k; cases k⟩
theorem heapOk_none {f : FuncId} {G : HeapG} (he : Enters P f) (h : ∀ as H R K, G as H R K = none) : HeapGOk P E tB W0 f G :=
  ⟨he, fun as H R K => by rw [h, h]; rfl, fun as H v H' k => by rw [h] at k; cases k⟩
theorem argG_none {ks : List AK} {F : List PV → Cps GV} (h : ∀ vs R K, F vs R K = none) (vs : List PV) (R : Type) (K : GV → Option R) : argG ks F vs R K = none := by
  unfold argG; cases fitArgs ks vs
  · rfl
  · exact h vs R K
theorem argH_none {n : Nat} {sh : Shape} {F : List PV → (R : Type) → (GV → List (Nat × Ob) → Option R) → Option R} (h : ∀ vs R K, F vs R K = none) (as : List GV) (H : List (Nat × Ob)) (R : Type) (K : GV → List (Nat × Ob) → Option R) : argH n sh F as H R K = none := by
  unfold argH; cases sh.fitsH n as H
  · rfl
  · exact h _ R K
def loopK {R : Type} (E : Env) (e : LoopE) (k : Nat) (K : Exit → St → Option R) : Exit → St → Option R := fun x st => match x with
  | .normal => e.wrap E k R st K
  | x => K x (e.mask x st)
structure LoopIs (E : Env) (n : Nat) (c : Code) (ρ : Nat → RhoF) (ls : List LoopE) (cs : List CutE) (e : LoopE) : Prop where
  only : onlyLoop c e.id = true
  zero : ∀ vs R K, e.L 0 vs R K = none
  mask : ∀ x st, Weak E st (e.mask x st)
  loop : ∀ k vs R (K : Exit → St → Option R), e.L (k + 1) vs R K = exec E n (ρ k R) (lam E k cs ls R) (loopAt c e.id) (e.sh.build vs) (loopK E e k K)
structure CutIs (E : Env) (n : Nat) (c : Code) (ρ : Nat → RhoF) (ls : List LoopE) (cs : List CutE) (e : CutE) : Prop where
  only : onlySecond c e.id = true
  mask : ∀ x st, Weak E st (e.mask x st)
  cut : ∀ k vs R (K : Exit → St → Option R), e.J k vs R K = exec E n (ρ k R) (lam E k cs ls R) (secondAt c e.id) (e.sh.build vs) fun x st => K x (e.mask x st)
theorem tower_of {n : Nat} {c : Code} {ρ : Nat → RhoF} {ls : List LoopE} {cs : List CutE} (h : AllL (LoopIs E n c ρ ls cs) ls) (k : AllL (CutIs E n c ρ ls cs) cs) : Tower E n c ρ ls cs :=
  ⟨fun e he => (h e he).only, fun e he => (k e he).only, fun e he => (h e he).zero, fun e he => (h e he).mask, fun e he => (h e he).loop, fun e he => (k e he).mask, fun e he => (k e he).cut⟩
section
variable {n : Nat} {c : Code} {ρ : Nat → RhoF} {ls : List LoopE} {cs : List CutE}
theorem Tower.heapH (hE : EnvOk P E tB) {f : FuncId} {fn : Func} (T : Tower E fn.ntmps c ρ ls cs) (hf : P.funcs[f]? = some fn) (hb : fn.body = some c) (hn : (fn.name == "runtime.NumGoroutine") = false) {k : Nat} (hρ : ∀ j, j ≤ k → RhoAll P E tB W0 (ρ j)) {m : Nat} {sh : Shape}
    {F : List PV → (R : Type) → (GV → List (Nat × Ob) → Option R) → Option R} (hF : ∀ vs R K, F vs R K = execHeap E (ρ k R) (lam E k cs ls R) fn (sh.asOf m vs) (sh.hOf vs) K) : HeapGOk P E tB W0 f (argH m sh F) := by
  have hN := T.nat k fun j hj => (hρ j hj).nat
  refine ⟨enters_of hf hn (by rw [hb]; rfl), fun as H => ?_, fun as H v H' h => ?_⟩
  · unfold argH
    cases sh.fitsH m as H
    · intro R K; rfl
    · intro R K
      simp only [cond_true]
      rw [hF, hF]
      exact execHeap_nat E (hρ k (Nat.le_refl k)).nat fn (fun c' hc => by rw [hb] at hc; injection hc with hc; rw [← hc]; exact hN) _ _ R K
  · unfold argH at h
    cases hfit : sh.fitsH m as H
    · rw [hfit] at h; cases h
    · simp only [hfit, cond_true] at h
      rw [hF] at h
      exact HeapFn.told hfit (heapFn_of hE (fun R => (hρ k (Nat.le_refl k)).ok R) hf hb (fun R => T.loopsOk hE R k fun j hj => (hρ j (by omega)).ok R) (fun R => T.cutsOk k R) h)
end
end
end Go.Dip
end
/- An ideal semantics of the model's code, part 34: a table of types, checked by the kernel. -/
section
set_option linter.unusedVariables false
set_option linter.unusedSimpArgs false
namespace Go.Dip
inductive Tr where
  | leaf
  | node (t : Nat) (k : TK) (sz by_ : Nat) (l r : Tr)
def Tr.get : Tr → Nat → Option (TK × Nat × Nat)
  | .leaf, _ => none
  | .node t k sz by_ l r, i => bif Nat.beq i t then some (k, sz, by_) else bif Nat.blt i t then l.get i else r.get i
def Tr.ty (T : Tr) (i : Nat) : TK := match T.get i with
  | some x => x.1
  | none => .other
def Tr.sz (T : Tr) (i : Nat) : Nat := match T.get i with
  | some x => x.2.1
  | none => 0
def Tr.by_ (T : Tr) (i : Nat) : Nat := match T.get i with
  | some x => x.2.2
  | none => 0
def Tr.env (T : Tr) (tb : TypeId) : Env := { ty := T.ty, sz := T.sz, by_ := T.by_, tb := tb }
def Tr.all (p : Nat → TK → Nat → Bool) : Tr → Bool
  | .leaf => true
  | .node t k sz _ l r => p t k sz && (l.all p && r.all p)
theorem Tr.all_get {p : Nat → TK → Nat → Bool} : ∀ {T : Tr} {i : Nat} {x : TK × Nat × Nat}, T.all p = true → T.get i = some x → p i x.1 x.2.1 = true
  | .leaf, i, x, _, h => by cases h
  | .node t k sz b l r, i, x, ha, h => by
    simp only [Tr.all, Bool.and_eq_true] at ha
    simp only [Tr.get, nbeq] at h
    by_cases e : i = t
    · simp only [e, decide_true, cond_true, Option.some.injEq] at h
      rw [← h, e]
      exact ha.1
    · simp only [e, decide_false, cond_false] at h
      cases hb : Nat.blt i t
      · rw [hb] at h; exact Tr.all_get ha.2.2 h
      · rw [hb] at h; exact Tr.all_get ha.2.1 h
def zeroB : CV → Value → Bool
  | .p .any, _ => true
  | .p (.bool b), .bool c => b == c
  | .p (.int k n), .int l m => decide (k = l) && decide (n = m)
  | .p (.str []), .string s => s.data.toList.isEmpty
  | .p .nilp, .pointer none => true
  | .p .nilif, .nilIface => true
  | .nils _, .slice none 0 0 => true
  | _, _ => false
def zerosB : List CV → List Value → Bool
  | [], [] => true
  | c :: cs, v :: vs => (v.oneCell' && zeroB c v) && zerosB cs vs
  | _, _ => false
theorem zeroB_rep {I : Mem} {μ : Locs} {c : CV} {v : Value} (h : zeroB c v = true) : RepC I μ c v := by
  unfold zeroB at h
  split at h
  · exact RepP.any _
  · simp only [beq_iff_eq] at h; subst h; exact RepP.bool _
  · simp only [Bool.and_eq_true, decide_eq_true_eq] at h
    obtain ⟨rfl, rfl⟩ := h
    exact RepP.int _ _
  · rename_i s
    have h1 : s = ⟨([] : List UInt8).toArray⟩ := by
      obtain ⟨⟨l⟩⟩ := s
      simp only [List.isEmpty_iff] at h
      subst h; rfl
    rw [h1]
    exact RepP.str []
  · exact RepP.nilp
  · exact RepP.nilif
  · rfl
  · cases h
theorem zerosB_rep {I : Mem} {μ : Locs} : ∀ {cs : List CV} {vs : List Value}, zerosB cs vs = true → RepCs I μ cs vs
  | [], [], _ => ⟨rfl, fun i v hv => by simp at hv⟩
  | c :: cs, v :: vs, h => by
    simp only [zerosB, Bool.and_eq_true] at h
    obtain ⟨h1, h2⟩ := zerosB_rep (I := I) (μ := μ) h.2
    refine ⟨by simp [h1], fun i u hu => ?_⟩
    cases i with
    | zero =>
      simp only [List.getElem?_cons_zero, Option.some.injEq] at hu
      subst hu
      exact ⟨zeroB_rep h.1.2, h.1.1⟩
    | succ i => simpa using h2 i u (by simpa using hu)
  | [], _ :: _, h => by simp [zerosB] at h
  | _ :: _, [], h => by simp [zerosB] at h
def pairsEq : List (Nat × TypeId) → List (Nat × TypeId) → Bool
  | [], [] => true
  | x :: l, y :: m => Nat.beq x.1 y.1 && (Nat.beq x.2 y.2 && pairsEq l m)
  | _, _ => false
theorem pairsEq_iff : ∀ {l m : List (Nat × TypeId)}, pairsEq l m = true → l = m
  | [], [], _ => rfl
  | x :: l, y :: m, h => by
    simp only [pairsEq, Bool.and_eq_true, nbeq, decide_eq_true_eq] at h
    rw [pairsEq_iff h.2.2, Prod.ext h.1 h.2.1]
  | [], _ :: _, h => by simp [pairsEq] at h
  | _ :: _, [], h => by simp [pairsEq] at h
def isAggV : Value → Bool
  | .agg _ => true
  | _ => false
def szB (P : Program) (E : Env) (t : TypeId) (sz : Nat) : Bool := match P.info? t with
  | some i => Nat.beq i.size sz && match i.zero with
    | some z => zerosB (zeroOf E 6 t) z.cells.toList && (Nat.beq (zeroOf E 6 t).length sz && Nat.beq z.cells.size sz)
    | none => false
  | none => false
def kindB (P : Program) (E : Env) (tB : TypeId) (t : TypeId) : TK → Bool
  | .int k => match P.underlying t with
    | some (.int k') => decide (k' = k)
    | _ => false
  | .bool => match P.underlying t with
    | some .bool => true
    | _ => false
  | .str => match P.underlying t with
    | some .string => true
    | _ => false
  | .slice e => match P.underlying t with
    | some (.slice e') => Nat.beq e' e && match P.info? e with
      | some i => Nat.beq i.size (E.sz e) && (Nat.ble i.bytes 128 && (Nat.ble (E.sz e) 64 && (Nat.blt 0 (E.sz e) && match i.zero with
        | some z => Nat.beq z.cells.size (E.sz e)
        | none => false)))
      | none => false
    | _ => false
  | .ptr e => match P.underlying t with
    | some (.pointer e') => Nat.beq e' e
    | _ => false
  | .iface => match P.underlying t with
    | some (.interface _) => true
    | _ => false
  | .fn => match P.underlying t with
    | some (.func _ _ _) => true
    | _ => false
  | .struct fs => match P.underlying t with
    | some (.struct Fs) => pairsEq fs (Fs.toList.map fun f => (f.offset, f.type)) && ((!P.eqGuardType P.depth t && (!P.stoodInHeld t && Fs.toList.all fun f => !(f.name == "_"))) &&
        ((match P.info? t with | some i => (match i.zero with | some z => isAggV z | none => false) | none => false) &&
        fs.all fun f => Nat.ble (f.1 + E.sz f.2) (E.sz t) && ((isStruct (E.ty f.2) || isScalar (E.ty f.2)) && match P.info? f.2 with
          | some i => Nat.beq i.size (E.sz f.2) && !Nat.beq i.size 0
          | none => false)))
    | _ => false
  | .bld => Nat.beq t tB && match P.info? t with
    | some i => match i.zero with
      | some (.agg vs) => match vs.toList with
        | [.pointer none, .slice none 0 0] => true
        | _ => false
      | _ => false
    | none => false
  | .other => true
def entB (P : Program) (E : Env) (tB : TypeId) (t : TypeId) (k : TK) (sz : Nat) : Bool := kindB P E tB t k && bif isScalar k then Nat.beq sz 1 && szB P E t sz else bif isStruct k then szB P E t sz else true
def envB (P : Program) (T : Tr) (tb tB : TypeId) : Bool :=
  T.all (entB P (T.env tb) tB) && ((!Nat.beq tB tb) && ((match T.ty tb with | .int .u8 => true | _ => false) && P.follows .mixedOrders))
section
variable {P : Program} {T : Tr} {tb tB : TypeId}
theorem szB_inv {E : Env} {t : TypeId} {sz : Nat} (h : szB P E t sz = true) : ∃ i z, P.info? t = some i ∧ i.size = sz ∧ i.zero = some z ∧ ZeroRep (zeroOf E 6 t) z ∧ (zeroOf E 6 t).length = sz ∧ z.cells.size = sz := by
  unfold szB at h
  split at h
  · rename_i i hi
    simp only [Bool.and_eq_true, nbeq, decide_eq_true_eq] at h
    obtain ⟨h1, h2⟩ := h
    split at h2
    · rename_i z hz
      simp only [Bool.and_eq_true, decide_eq_true_eq] at h2
      exact ⟨i, z, hi, h1, hz, fun I μ => zerosB_rep h2.1, h2.2.1, h2.2.2⟩
    · cases h2
  · cases h
theorem envOk_of (h : envB P T tb tB = true) : EnvOk P (T.env tb) tB := by
  simp only [envB, Bool.and_eq_true, Bool.not_eq_true'] at h
  obtain ⟨hT, hne, hu8, hmix⟩ := h
  have ent : ∀ t, (T.env tb).ty t ≠ .other → entB P (T.env tb) tB t ((T.env tb).ty t) ((T.env tb).sz t) = true := by
    intro t ht
    cases hg : T.get t with
    | none => exact absurd (by simp [Tr.env, Tr.ty, hg]) ht
    | some x =>
      have := Tr.all_get hT hg
      simpa [Tr.env, Tr.ty, Tr.sz, hg] using this
  have scal : ∀ t, isScalar ((T.env tb).ty t) = true → kindB P (T.env tb) tB t ((T.env tb).ty t) = true ∧ (T.env tb).sz t = 1 ∧ szB P (T.env tb) t 1 = true := by
    intro t ht
    have h1 := ent t (fun e => by rw [e] at ht; cases ht)
    simp only [entB, Bool.and_eq_true, ht, cond_true, nbeq, decide_eq_true_eq] at h1
    exact ⟨h1.1, h1.2.1, by rw [← h1.2.1]; exact h1.2.2⟩
  have stru : ∀ t, isStruct ((T.env tb).ty t) = true → kindB P (T.env tb) tB t ((T.env tb).ty t) = true ∧ szB P (T.env tb) t ((T.env tb).sz t) = true := by
    intro t ht
    have h1 := ent t (fun e => by rw [e] at ht; cases ht)
    have hs : isScalar ((T.env tb).ty t) = false := by cases hk : (T.env tb).ty t <;> rw [hk] at ht <;> first | rfl | cases ht
    simp only [entB, Bool.and_eq_true, ht, hs, cond_true, cond_false] at h1
    exact h1
  refine ⟨?_, ?_, ?_, ?_, ?_, ?_, ?_, ?_, ?_, ?_, ?_, ?_, ?_, ?_, ?_⟩
  · intro t ht
    obtain ⟨h1, h2, h3⟩ := scal t ht
    obtain ⟨i, z, k1, k2, _⟩ := szB_inv h3
    have : ∃ d, P.underlying t = some d ∧ isFlat d = true := by
      revert h1 ht
      cases (T.env tb).ty t <;> intro ht h1 <;> simp only [kindB] at h1 <;> first
        | (cases ht; done)
        | (split at h1 <;> first | (rename_i e; exact ⟨_, e, rfl⟩) | cases h1)
    obtain ⟨d, d1, d2⟩ := this
    exact ⟨d, i, d1, d2, k1, k2, h2⟩
  · intro t fs hfs
    obtain ⟨h1, h2⟩ := stru t (by rw [hfs]; rfl)
    obtain ⟨i, z, k1, k2, _⟩ := szB_inv h2
    rw [hfs] at h1
    simp only [kindB] at h1
    split at h1
    · rename_i Fs hF
      simp only [Bool.and_eq_true] at h1
      exact ⟨Fs, i, hF, pairsEq_iff h1.1, k1, k2⟩
    · cases h1
  · intro t k ht
    obtain ⟨h1, _⟩ := scal t (by rw [ht]; rfl)
    rw [ht] at h1
    simp only [kindB] at h1
    split at h1
    · rename_i k' hk; simp only [decide_eq_true_eq] at h1; rw [hk, h1]
    · cases h1
  · intro t ht
    obtain ⟨h1, _⟩ := scal t (by rw [ht]; rfl)
    rw [ht] at h1
    simp only [kindB] at h1
    split at h1
    · assumption
    · cases h1
  · intro t ht
    obtain ⟨h1, _⟩ := scal t (by rw [ht]; rfl)
    rw [ht] at h1
    simp only [kindB] at h1
    split at h1
    · assumption
    · cases h1
  · intro t e ht
    obtain ⟨h1, _⟩ := scal t (by rw [ht]; rfl)
    rw [ht] at h1
    simp only [kindB] at h1
    split at h1
    · rename_i e' he
      simp only [Bool.and_eq_true, nbeq, decide_eq_true_eq] at h1
      obtain ⟨h1, h2⟩ := h1
      subst h1
      split at h2
      · rename_i i hi
        simp only [Bool.and_eq_true, decide_eq_true_eq, Nat.ble_eq, Nat.blt_eq] at h2
        obtain ⟨a1, a2, a3, a4, a5⟩ := h2
        split at a5
        · rename_i z hz
          simp only [decide_eq_true_eq] at a5
          exact ⟨he, i, z, hi, a1, hz, a5, a4, a2, a3⟩
        · cases a5
      · cases h2
    · cases h1
  · intro t e ht
    obtain ⟨h1, _⟩ := scal t (by rw [ht]; rfl)
    rw [ht] at h1
    simp only [kindB] at h1
    split at h1
    · rename_i e' he
      simp only [nbeq, decide_eq_true_eq] at h1
      rw [he, h1]
    · cases h1
  · intro t ht
    obtain ⟨h1, _⟩ := scal t (by rw [ht]; rfl)
    rw [ht] at h1
    simp only [kindB] at h1
    split at h1
    · rename_i ms hm; exact ⟨ms, hm⟩
    · cases h1
  · intro s fs hfs f hf
    obtain ⟨h1, _⟩ := stru s (by rw [hfs]; rfl)
    rw [hfs] at h1
    simp only [kindB] at h1
    split at h1
    · simp only [Bool.and_eq_true, List.all_eq_true] at h1
      have := h1.2.2.2 f hf
      simp only [Bool.and_eq_true, Nat.ble_eq, Bool.or_eq_true] at this
      obtain ⟨a1, a2, a3⟩ := this
      split at a3
      · rename_i i hi
        simp only [Bool.and_eq_true, nbeq, decide_eq_true_eq, Bool.not_eq_true', decide_eq_false_iff_not] at a3
        exact ⟨a1, ⟨i, hi, a3.1, a3.2⟩, a2⟩
      · cases a3
    · cases h1
  · intro t ht
    rcases ht with ht | ht
    · obtain ⟨h1, h2⟩ := stru t ht
      obtain ⟨i, z, k1, k2, k3, k4, k5, k6⟩ := szB_inv h2
      refine ⟨i, z, k1, k3, k4, fun _ => ?_, k5⟩
      revert h1 ht
      cases hk : (T.env tb).ty t <;> intro ht h1 <;> first | (cases ht; done) | skip
      simp only [kindB] at h1
      split at h1
      · simp only [Bool.and_eq_true, k1, k3] at h1
        have := h1.2.2.1
        cases z <;> first | (cases this; done) | exact ⟨_, rfl⟩
      · cases h1
    · obtain ⟨h1, h2, h3⟩ := scal t ht
      obtain ⟨i, z, k1, k2, k3, k4, k5, k6⟩ := szB_inv h3
      refine ⟨i, z, k1, k3, k4, fun e => ?_, by rw [h2]; exact k5⟩
      revert e ht
      cases (T.env tb).ty t <;> intro ht e <;> first | (cases ht; done) | cases e
  · intro t ht
    obtain ⟨h1, _⟩ := stru t ht
    revert h1 ht
    cases hk : (T.env tb).ty t <;> intro ht h1 <;> first | (cases ht; done) | skip
    simp only [kindB] at h1
    split at h1
    · rename_i Fs hF
      simp only [Bool.and_eq_true, Bool.not_eq_true'] at h1
      obtain ⟨_, ⟨a1, a2, a3⟩, _⟩ := h1
      refine ⟨a1, a2, fun Gs hG f hf => ?_⟩
      rw [hF] at hG
      injection hG with hG
      injection hG with hG
      subst hG
      simp only [List.all_eq_true] at a3
      have := a3 f hf
      simpa using this
    · cases h1
  · intro t ht
    have h1 := ent t (fun e => by rw [ht] at e; cases e)
    simp only [entB, Bool.and_eq_true] at h1
    have h1 := h1.1
    rw [ht] at h1
    simp only [kindB, Bool.and_eq_true, nbeq, decide_eq_true_eq] at h1
    obtain ⟨h0, h1⟩ := h1
    split at h1
    · rename_i i hi
      split at h1
      · rename_i vs hz
        split at h1
        · rename_i hv
          refine ⟨h0, i, hi, ?_⟩
          rw [hz]
          have : vs = #[.pointer none, .slice none 0 0] := by
            obtain ⟨l⟩ := vs
            simp only at hv
            rw [hv]
          rw [this]
        · cases h1
      · cases h1
    · cases h1
  · intro e
    rw [e, nbeq] at hne
    simp [Tr.env] at hne
  · show T.ty tb = .int .u8
    split at hu8
    · assumption
    · cases hu8
  · exact hmix
end
end Go.Dip
end
