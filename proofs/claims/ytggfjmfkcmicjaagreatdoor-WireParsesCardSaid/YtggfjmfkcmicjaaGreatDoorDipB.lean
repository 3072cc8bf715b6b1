/- Joined by program out of: Core18, Core19, Core20, Core21, Core22, Core23, Core24, Core25, Core26. -/
import Derived.Test.YtggfjmfkcmicjaaGreatDoorDipA
import Derived.Maps.AppendAt
import Derived.Laws.OwnMore
import Derived.Orders
set_option linter.all false
/- An ideal semantics of the model's code, part 18: what is written. -/
section
set_option linter.unusedVariables false
set_option linter.unusedSimpArgs false
namespace Go.Dip
section
variable {R : Type} {r : R} {P : Program} {E : Env} {tB : TypeId} {W0 : World}
theorem grownBy_setRow (w : World) (b : Nat) (cs : Array Value) : w.grownBy (w.setRow b cs) (some b) :=
  ⟨rfl, rfl, rfl, by simp, fun k _ hk => setRow_other w b k cs (fun e => hk (by rw [e]))⟩
theorem Sim.without {X : Cx} {n : Nat} {I : Mem} {μ : Locs} {st : St} {a : Act} {w : World} (h : Sim X n I μ st a w) (q : Nat) : Sim X n I μ { st with h := Dip.drop q st.h } a w := by
  have key : ∀ r o, look (Dip.drop q st.h) r = some o → r ≠ q ∧ look st.h r = some o := by
    intro r o ho
    rw [look_drop] at ho
    by_cases e : r = q
    · simp [e] at ho
    · simp only [e, if_false] at ho
      exact ⟨e, ho⟩
  refine ⟨h.size, h.defers, h.t, ⟨?_, ?_, ?_, ?_, ?_⟩, h.im, h.bw, h.fr, h.cx, h.base⟩
  · intro r o ho; exact h.h.ok r o (key r o ho).2
  · intro r r' o o' l l' b ho ho' hne hl hl' hb; exact h.h.apart r r' o o' l l' b (key r o ho).2 (key r' o' ho').2 hne hl hl' hb
  · intro r o l b ho hl hb; exact h.h.imm r o l b (key r o ho).2 hl hb
  · intro r o l b ho hl hb; exact h.h.own r o l b (key r o ho).2 hl hb
  · intro r r' o o' ho ho' hne hb; exact h.h.alone r r' o o' (key r o ho).2 (key r' o' ho').2 hne hb
theorem Sim.aside {X : Cx} {n : Nat} {I : Mem} {μ : Locs} {st : St} {a : Act} {w : World} (h : Sim X n I μ st a w) {q : Nat} {o : Ob} {l : Loc} (ho : look st.h q = some o) (hl : μ q = some l)
    (hbyte : ∀ b, l.blk = some b → (∃ arr T fz, w.heap[b]? = some (.cells arr T fz) ∧ T ≠ X.E.tb) ∨ o.isByte X.E = true) : Aside X I μ w (Dip.drop q st.h) l.blk := by
  have key : ∀ r p, look (Dip.drop q st.h) r = some p → r ≠ q ∧ look st.h r = some p := by
    intro r p hp
    rw [look_drop] at hp
    by_cases e : r = q
    · simp [e] at hp
    · simp only [e, if_false] at hp
      exact ⟨e, hp⟩
  refine ⟨?_, ?_, ?_, ?_⟩
  · intro b hb r p l' hp hl' e
    obtain ⟨hne, hp'⟩ := key r p hp
    exact h.h.apart r q p o l' l b hp' ho hne hl' hl e hb
  · intro b hb; exact h.h.own q o l b ho hl hb
  · intro b hb; exact h.h.imm q o l b ho hl hb
  · intro b hb
    rcases hbyte b hb with e | e
    · exact .inl e
    · refine .inr fun r p hp => ?_
      obtain ⟨hne, hp'⟩ := key r p hp
      cases hpb : p.isBld
      · rfl
      · have := (h.h.alone r q p o hp' ho hne hpb).2
        rw [e] at this
        cases this
theorem Sim.setOb {X : Cx} {n : Nat} {I : Mem} {μ : Locs} {st : St} {a : Act} {w : World} (h : Sim X n I μ st a w) {q : Nat} {o o' : Ob} {l : Loc} {b : Nat} {arr : Array Value} (ho : look st.h q = some o) (hl : μ q = some l) (hb : l.blk = some b)
    (hbyte : (∃ arr T fz, w.heap[b]? = some (.cells arr T fz) ∧ T ≠ X.E.tb) ∨ o.isByte X.E = true) (hB : o'.isBld = false) (hB0 : o.isBld = false) (hY : o'.isByte X.E = o.isByte X.E) (hnew : ObOk X I μ (w.setRow b arr) q o') :
    Sim X n I μ (Dip.setOb q o' st) a (w.setRow b arr) := by
  have h1 := h.without q
  have h2 := h1.grown (row := some b) (grownBy_setRow w b arr) (hb ▸ h.aside ho hl fun c hc => by rw [hb] at hc; injection hc with hc; subst hc; exact hbyte)
  refine ⟨h2.size, h2.defers, h2.t, ?_, h2.im, h2.bw, h2.fr, h2.cx, h2.base⟩
  refine h2.h.new' (by rw [look_drop]; simp) hl hnew ?_ ?_
  · intro c hc
    rw [hb] at hc
    injection hc with hc
    subst hc
    refine ⟨fun r p l' hp hl' e => ?_, h.h.imm q o l _ ho hl hb, h.h.own q o l _ ho hl hb⟩
    rw [look_drop] at hp
    by_cases er : r = q
    · simp [er] at hp
    · simp only [er, if_false] at hp
      exact h.h.apart r q p o l' l _ hp ho er hl' hl e hb
  · intro r p hp
    rw [look_drop] at hp
    by_cases er : r = q
    · simp [er] at hp
    · simp only [er, if_false] at hp
      refine ⟨fun e => (by rw [hB] at e; cases e), fun e => ⟨hB, ?_⟩⟩
      rw [hY]
      exact (h.h.alone r q p o hp ho er e).2
theorem run_storeAt' {t : TypeId} {i : TypeInfo} {b o : Nat} {v : Value} {cur : Array Value} {T : TypeId} {w : World} (hi : P.info? t = some i) (hs : v.cells.size = i.size) (hg : w.heap[b]? = some (.cells cur T (0, 0))) (hl : o + v.cells.size ≤ cur.size) (h1 : ∀ x ∈ v.cells.toList, x.oneCell' = true) :
    (Instr.storeAt t (.pointer (some ⟨b, o, none⟩)) v).run P w = .ok () (w.setRow b (splice cur.toList o v.cells.toList).toArray) := by
  have := run_storeCells_at P b o T v.cells.toList 0 cur w hg (by simpa using hl) h1
  have hsz : (sizeOf t).run P w = .ok i.size w := by simp [sizeOf, typeInfo, hi]
  simp only [Instr.storeAt, Instr.sureAddr, storeVar, Sem.run_bind, Sem.run_pure, Result.andThen_ok, hsz, hs]
  simp only [ne_eq, not_true_eq_false, if_false]
  simpa [splice] using this
theorem repCs_one {I : Mem} {μ : Locs} {cs : List CV} {vs : List Value} (h : RepCs I μ cs vs) : ∀ x ∈ vs, x.oneCell' = true := by
  intro x hx
  obtain ⟨i, hi⟩ := List.getElem?_of_mem hx
  have hlt : i < cs.length := by rw [h.1]; exact (List.getElem?_eq_some_iff.1 hi).1
  have := (h.2 i cs[i] (by simp [hlt])).2
  rw [List.getD_eq_getElem?_getD, hi] at this
  exact this
theorem EnvOk.info (hE : EnvOk P E tB) {t : TypeId} (h : isStruct (E.ty t) = true ∨ isScalar (E.ty t) = true) : ∃ i, P.info? t = some i ∧ i.size = E.sz t := by
  rcases h with h | h
  · obtain ⟨fs, hfs⟩ := isStruct_inv h
    obtain ⟨Fs, i, _, _, h3, h4⟩ := hE.struct t fs hfs
    exact ⟨i, h3, h4⟩
  · obtain ⟨d, i, _, _, h3, h4, h5⟩ := hE.scalar t h
    exact ⟨i, h3, h4.trans h5.symm⟩
def StoreDoes (P : Program) (E : Env) (tB : TypeId) (st : St) (t : TypeId) (x : Operand) (ad : GV) (st' : St) : Prop :=
  ∀ {X : Cx} {n : Nat} {I : Mem} {μ : Locs} {a : Act} {w : World} {y : Value}, X.E = E → RowsOk μ → Sim X n I μ st a w → RepG I μ ad y →
    ∃ w' J, (Instr.storeAt t y (a.eval x)).run P w = .ok () w' ∧ NewI X I J ∧ Sim X n J μ st' a w'
theorem wPCells_inv (hE : EnvOk P E tB) {t : TypeId} {v : PV} {K : List PV → Option R} (h : wPCells E t v K = some r) : ∃ xs, K xs = some r ∧ xs.length = E.sz t ∧ (isStruct (E.ty t) = true ∨ isScalar (E.ty t) = true) ∧
    ∀ {I : Mem} {x : Value}, RepP I v x → x.cells.size = E.sz t ∧ ∀ j, j < E.sz t → RepP I (xs.getD j .any) (x.cells.toList.getD j undef) ∧ (x.cells.toList.getD j undef).oneCell' = true := by
  unfold wPCells at h
  cases hs : isStruct (E.ty t)
  · simp only [hs, cond_false] at h
    cases hc : isScalar (E.ty t) && v.isOne
    · simp [hc] at h
    · simp only [hc, cond_true] at h
      simp only [Bool.and_eq_true] at hc
      obtain ⟨_, _, _, _, _, _, hsz⟩ := hE.scalar t hc.1
      refine ⟨_, h, by simp [hsz], .inr hc.1, fun {I x} hx => ?_⟩
      obtain ⟨k3, k4⟩ := hx.isOne hc.2
      rw [k4, hsz]
      refine ⟨rfl, fun j hj => ?_⟩
      have : j = 0 := by omega
      subst this
      exact ⟨hx, k3⟩
  · simp only [hs, cond_true] at h
    cases hc : v.isAgg (E.sz t)
    · simp [hc] at h
    · simp only [hc, cond_true] at h
      refine ⟨_, h, by simp, .inl rfl, fun {I x} hx => ?_⟩
      obtain ⟨vs, rfl, h1, h2⟩ := hx.isAgg hc
      refine ⟨h1, fun j hj => ?_⟩
      have := h2 j hj
      simp only [List.getD_eq_getElem?_getD, List.getElem?_map, List.getElem?_range hj, Option.map_some, Option.getD_some]
      simp only [List.getD_eq_getElem?_getD] at this
      exact this
theorem splice_getD (cs : List Value) (off : Nat) (xs : List Value) (h : off + xs.length ≤ cs.length) (i : Nat) (u : Value) : (splice cs off xs).getD i u = if off ≤ i ∧ i < off + xs.length then xs.getD (i - off) u else cs.getD i u := by
  simp only [List.getD_eq_getElem?_getD, splice_get _ _ _ h]
  split <;> rfl
theorem splice_take (cs : List Value) (off : Nat) (xs : List Value) (n : Nat) (h : off + xs.length ≤ n) (hn : n ≤ cs.length) : (splice cs off xs).take n = splice (cs.take n) off xs := by
  apply List.ext_getElem?
  intro i
  rw [List.getElem?_take, splice_get _ _ _ (by omega), splice_get _ _ _ (by rw [List.length_take]; omega)]
  by_cases hi : i < n
  · rw [if_pos hi, List.getElem?_take, if_pos hi]
  · rw [if_neg hi, if_neg (by omega), List.getElem?_take, if_neg hi]
theorem Sim.rowStore {X : Cx} {n : Nat} {I : Mem} {μ : Locs} {st : St} {a : Act} {w : World} (h : Sim X n I μ st a w) {q : Nat} {e : TypeId} {es : List PV} {i off : Nat} {el : PV} {t : TypeId} {v : Value} {y : Value}
    (ho : look st.h q = some (.row e es)) (hi : i < es.length) (hy : RepC I μ (.ptrE q (i : Int) off) y) (hm : off + v.cells.toList.length ≤ X.E.sz e)
    (ht : ∃ inf, P.info? t = some inf ∧ v.cells.size = inf.size) (h1 : ∀ x ∈ v.cells.toList, x.oneCell' = true) (hc : el.cnt = X.E.sz e)
    (hel : ∀ j, j < X.E.sz e → if off ≤ j ∧ j < off + v.cells.toList.length then RepP I (pcell el j) (v.cells.toList.getD (j - off) undef) else pcell el j = pcell (es.getD i .any) j) :
    ∃ w', (Instr.storeAt t y v).run P w = .ok () w' ∧ Sim X n I μ (Dip.setOb q (.row e (es.set i el)) st) a w' := by
  obtain ⟨inf, hinf, hsz⟩ := ht
  obtain ⟨sl, xs, hμ, hown, hrow⟩ := h.h.ok q _ ho
  obtain ⟨g, m, cap, c, k1, k2, k3, rfl⟩ := hy
  rw [hμ] at k1
  injection k1 with k1
  injection k1 with k1 k1'
  subst k1 k1'
  rcases hown.2 with ⟨z1, _⟩ | ⟨g', cap', cur, z1, zB, zg, znc, zcm, zs, zt⟩
  · cases z1
  · injection z1 with z1 z2 z3
    injection z1 with z1
    injection z1 with z1
    subst z1 z2 z3
    rw [show ((i : Int)).toNat = i from rfl]
    have hlin : i * X.E.sz e + X.E.sz e ≤ es.length * X.E.sz e := by
      have := Nat.mul_le_mul_right (X.E.sz e) (show i + 1 ≤ es.length from hi)
      rw [Nat.add_mul] at this
      omega
    have hcl : es.length * X.E.sz e ≤ cur.size := by rw [zs]; exact Nat.mul_le_mul_right _ znc
    have hxl : xs.length = es.length * X.E.sz e := hown.1
    have hfit : (i * X.E.sz e + off) + v.cells.toList.length ≤ cur.toList.length := by simp; simp at hm; omega
    refine ⟨_, run_storeAt' hinf hsz zg (by simpa using hfit) h1, ?_⟩
    refine h.setOb ho hμ rfl ?_ rfl rfl rfl ?_
    · by_cases he : e = X.E.tb
      · exact .inr (by simp [Ob.isByte, he])
      · exact .inl ⟨cur, e, (0, 0), zg, he⟩
    · refine ⟨_, splice xs (i * X.E.sz e + off) v.cells.toList, hμ, ⟨?_, .inr ⟨g, cap, _, by simp, zB, setRow_heap w g cur _ e _ zg, by simpa using znc, zcm, ?_, ?_⟩⟩, ?_⟩
      · rw [splice_length _ _ _ (by omega)]; simpa using hxl
      · have := splice_length cur.toList _ v.cells.toList hfit
        simp only [List.size_toArray]
        rw [this]; simpa using zs
      · simp only [List.length_set]
        rw [splice_take _ _ _ _ (by omega) (by simpa using hcl), zt]
      · intro k hk
        simp only [List.length_set] at hk
        have hkl : k * X.E.sz e + X.E.sz e ≤ es.length * X.E.sz e := by
          have := Nat.mul_le_mul_right (X.E.sz e) (show k + 1 ≤ es.length from hk)
          rw [Nat.add_mul] at this
          omega
        by_cases hki : k = i
        · subst hki
          have e1 : (es.set k el).getD k .any = el := by simp [List.getD_eq_getElem?_getD, hk]
          rw [e1]
          refine ⟨hc, fun j hj => ?_⟩
          rw [splice_getD _ _ _ (by omega)]
          have := hel j hj
          by_cases hin : off ≤ j ∧ j < off + v.cells.toList.length
          · rw [if_pos hin] at this
            rw [if_pos (by omega)]
            have e2 : k * X.E.sz e + j - (k * X.E.sz e + off) = j - off := by omega
            rw [e2]
            refine ⟨this, ?_⟩
            have hlt : j - off < v.cells.toList.length := by omega
            rw [getD_lt hlt]
            exact h1 _ (by simp)
          · rw [if_neg hin] at this
            rw [if_neg (by omega), this]
            exact (hrow k hk).2 j hj
        · have e1 : (es.set i el).getD k .any = es.getD k .any := by simp [List.getD_eq_getElem?_getD, List.getElem?_set, show ¬ i = k from fun e => hki e.symm]
          rw [e1]
          refine ⟨(hrow k hk).1, fun j hj => ?_⟩
          rw [splice_getD _ _ _ (by omega), if_neg ?_]
          · exact (hrow k hk).2 j hj
          · rintro ⟨q1, q2⟩
            rcases Nat.lt_or_gt_of_ne hki with hlt | hgt
            · have := Nat.mul_le_mul_right (X.E.sz e) (show k + 1 ≤ i from hlt)
              rw [Nat.add_mul] at this
              omega
            · have := Nat.mul_le_mul_right (X.E.sz e) (show i + 1 ≤ k from hgt)
              rw [Nat.add_mul] at this
              omega
theorem ptrE_in {X : Cx} {n : Nat} {I : Mem} {μ : Locs} {st : St} {a : Act} {w : World} (h : Sim X n I μ st a w) {q : Nat} {e : TypeId} {es : List PV} {i : Int} {off : Nat} {y : Value} (ho : look st.h q = some (.row e es)) (hy : RepC I μ (.ptrE q i off) y) :
    i.toNat < es.length ∧ RepC I μ (.ptrE q (i.toNat : Int) off) y := by
  obtain ⟨sl, xs, hμ, hown, hrow⟩ := h.h.ok q _ ho
  obtain ⟨g, m, cap, c, k1, k2, k3, rfl⟩ := hy
  have e1 : (i.toNat : Int) = i := by omega
  rw [e1]
  refine ⟨?_, g, m, cap, c, k1, k2, k3, rfl⟩
  rw [hμ] at k1
  injection k1 with k1
  injection k1 with k1 k1'
  rcases hown.2 with ⟨z1, _⟩ | ⟨g', cap', cur, z1, _⟩
  · rw [k1] at z1; cases z1
  · rw [k1] at z1
    injection z1 with z1 z2 z3
    omega
theorem evStore_inv (hE : EnvOk P E tB) {st : St} {t : TypeId} {ad : GV} {x : Operand} {K : St → Option R} (h : evStore E st t ad x K = some r) : ∃ st', K st' = some r ∧ StoreDoes P E tB st t x ad st' := by
  unfold evStore at h
  split at h
  · rename_i q off
    split at h
    · rename_i cs ho
      obtain ⟨xs, h, hxl, hk, _, hrep⟩ := wCells_inv hE h
      cases hb : Nat.ble (off + xs.length) cs.length
      · simp [hb] at h
      · simp only [hb, cond_true] at h
        have hle := Nat.le_of_ble_eq_true hb
        refine ⟨_, h, fun {X n I μ a w y} hX hr hs hy => ?_⟩
        obtain ⟨b, arr, T, h1, h2, h3, h4, h5⟩ := hs.h.ok q _ ho
        have hev := hs.evT t x
        rw [hX] at hev
        obtain ⟨k1, k2⟩ := hrep hr hev
        obtain ⟨inf, i1, i2⟩ := hE.info hk
        rcases hy with ⟨b', h6, rfl⟩ | ⟨b', bs, h6, _⟩
        · rw [h1] at h6; injection h6 with h6; injection h6 with h6; subst h6
          have hl1 := h5.1
          have hl2 := k1.1
          refine ⟨_, I, run_storeAt' i1 (by omega) h3 (by simp at hl1 hl2; omega) (repCs_one k1), NewI.refl X I, ?_⟩
          exact hs.setOb ho h1 rfl (.inl ⟨arr, T, (0, 0), h3, h4⟩) rfl rfl rfl ⟨b, _, T, h1, h2, setRow_heap w b arr _ T _ h3, h4, by simpa using h5.splice k1 off hle⟩
        · rw [h1] at h6; injection h6 with h6; cases h6
    · cases h
  · rename_i q i off
    have h0 := wPure_inv h
    clear h
    obtain ⟨v, st1, h, hp⟩ := h0
    split at h
    · rename_i e es ho
      cases hc : isStruct (E.ty t) && (Nat.beq off 0 && Nat.beq (E.sz t) (E.sz e))
      · simp only [hc, cond_false] at h
        cases hse : isStruct (E.ty e)
        · simp only [hse, cond_false] at h
          cases hc2 : isScalar (E.ty e) && (isScalar (E.ty t) && (Nat.beq off 0 && v.isOne))
          · simp [hc2] at h
          · simp only [hc2, cond_true] at h
            simp only [Bool.and_eq_true, nbeq, decide_eq_true_eq] at hc2
            obtain ⟨s1, s2, rfl, s4⟩ := hc2
            refine ⟨_, h, fun {X n I μ a w y} hX hr hs hy => ?_⟩
            obtain ⟨J, k1, k2, k3⟩ := hp.does hX hs
            obtain ⟨p1, p2⟩ := ptrE_in k2 ho (RepC.mono k1.1 hy fun _ _ => rfl)
            obtain ⟨c1, c2⟩ := k3.isOne s4
            obtain ⟨c3, c4⟩ := PV.one_cells s4
            obtain ⟨_, inf, _, _, i1, i2, i3⟩ := hE.scalar t s2
            obtain ⟨_, _, _, _, _, _, i4⟩ := hE.scalar e s1
            subst hX
            obtain ⟨w', w1, w2⟩ := k2.rowStore (P := P) (t := t) (el := v) (v := a.eval x) ho p1 p2 (by rw [c2, i4]; simp) ⟨inf, i1, by rw [c2, i2]; rfl⟩ (by rw [c2]; simpa using c1) (by rw [c4, i4]) (by
              intro j hj
              have : j = 0 := by omega
              subst this
              rw [c2]
              simp only [pcell, c3]
              simpa using k3)
            exact ⟨w', J, w1, k1, w2⟩
        · simp only [hse, cond_true] at h
          obtain ⟨xs, h, hxl, hk, hrep⟩ := wPCells_inv hE h
          cases hc2 : Nat.ble (off + xs.length) (E.sz e) && (pat es i).isAgg (E.sz e)
          · simp [hc2] at h
          · simp only [hc2, cond_true] at h
            simp only [Bool.and_eq_true] at hc2
            have hle := Nat.le_of_ble_eq_true hc2.1
            refine ⟨_, h, fun {X n I μ a w y} hX hr hs hy => ?_⟩
            obtain ⟨J, k1, k2, k3⟩ := hp.does hX hs
            obtain ⟨p1, p2⟩ := ptrE_in k2 ho (RepC.mono k1.1 hy fun _ _ => rfl)
            obtain ⟨c1, c2⟩ := hrep k3
            obtain ⟨inf, i1, i2⟩ := hE.info hk
            subst hX
            obtain ⟨cs, hcs⟩ : ∃ cs, pat es i = .agg cs := by
              revert hc2
              cases pat es i <;> intro hc2 <;> first | exact ⟨_, rfl⟩ | simp [PV.isAgg] at hc2
            have hcl : cs.length = X.E.sz e := by
              have := hc2.2
              rw [hcs] at this
              simpa [PV.isAgg] using this
            have hvl : (a.eval x).cells.toList.length = X.E.sz t := by simpa using c1
            rw [hcs]
            obtain ⟨w', w1, w2⟩ := k2.rowStore (P := P) (t := t) (el := .agg (splice cs off xs)) (v := a.eval x) ho p1 p2 (by omega) ⟨inf, i1, by omega⟩ (by
              intro z hz
              obtain ⟨j, hj⟩ := List.getElem?_of_mem hz
              have hjl := (List.getElem?_eq_some_iff.1 hj).1
              have := (c2 j (by omega)).2
              rw [List.getD_eq_getElem?_getD, hj] at this
              exact this) (by simp only [PV.cnt]; rw [splice_length _ _ _ (by omega)]; exact hcl) (by
              intro j hj
              have hsp : pcell (.agg (splice cs off xs)) j = if off ≤ j ∧ j < off + xs.length then xs.getD (j - off) .any else cs.getD j .any := by
                simp only [pcell, PV.cells, List.getD_eq_getElem?_getD, splice_get _ _ _ (show off + xs.length ≤ cs.length by omega)]
                split <;> rfl
              rw [hsp, hvl, hxl]
              by_cases hin : off ≤ j ∧ j < off + X.E.sz t
              · rw [if_pos hin, if_pos hin]
                exact (c2 (j - off) (by omega)).1
              · rw [if_neg hin, if_neg hin]
                have : es.getD i.toNat .any = .agg cs := hcs
                rw [this]
                rfl)
            exact ⟨w', J, w1, k1, w2⟩
      · simp only [hc, cond_true] at h
        simp only [Bool.and_eq_true, nbeq, decide_eq_true_eq] at hc
        obtain ⟨s1, rfl, s3⟩ := hc
        obtain ⟨h, hcnt, hel⟩ := wElem_inv hE h
        refine ⟨_, h, fun {X n I μ a w y} hX hr hs hy => ?_⟩
        obtain ⟨J, k1, k2, k3⟩ := hp.does hX hs
        obtain ⟨p1, p2⟩ := ptrE_in k2 ho (RepC.mono k1.1 hy fun _ _ => rfl)
        obtain ⟨c1, c2⟩ := hel k3
        obtain ⟨inf, i1, i2⟩ := hE.info (.inl s1)
        subst hX
        have hvl : (a.eval x).cells.toList.length = X.E.sz t := by simpa using c1
        obtain ⟨w', w1, w2⟩ := k2.rowStore (P := P) (t := t) (el := v) (v := a.eval x) ho p1 p2 (by omega) ⟨inf, i1, by omega⟩ (by
          intro z hz
          obtain ⟨j, hj⟩ := List.getElem?_of_mem hz
          have hjl := (List.getElem?_eq_some_iff.1 hj).1
          have := (c2 j (by omega)).2
          rw [List.getD_eq_getElem?_getD, hj] at this
          exact this) (by rw [hcnt, s3]) (by
          intro j hj
          rw [if_pos (by omega)]
          exact (c2 j (by omega)).1)
        exact ⟨w', J, w1, k1, w2⟩
    · cases h
  · cases h
end
end Go.Dip
end
/- An ideal semantics of the model's code, part 19: append; runes. -/
section
set_option linter.unusedVariables false
set_option linter.unusedSimpArgs false
namespace Go.Dip
section
variable {R : Type} {r : R} {P : Program} {E : Env} {tB : TypeId} {W0 : World}
theorem SliceAt.cells {X : Cx} {I : Mem} {w : World} {c : Nat} {es : List PV} {x : Value} (h : SliceAt X I w c es x) :
    (x = .slice none 0 0 ∧ es = []) ∨ ∃ ad cap xs, x = .slice (some ad) es.length cap ∧ RowRep I c es xs ∧ xs.length = es.length * c ∧ (∀ (j : Nat) u, xs[j]? = some u → w.cell? (ad.add j) = some u) ∧ ∀ u ∈ xs, u.oneCell' = true := by
  obtain ⟨A, cap, h1, h2, h3, h4⟩ := h
  cases A with
  | none =>
    obtain ⟨e1, e2⟩ := h3 rfl
    subst e1 e2
    exact .inl ⟨h1, rfl⟩
  | some ad =>
    obtain ⟨xs, k1, k2, k3⟩ := h4 ad rfl
    refine .inr ⟨_, cap, xs, h1, k1, k2, fun j u hj => ?_, fun u hu => ?_⟩
    · have hlt := (List.getElem?_eq_some_iff.1 hj).1
      rw [k3 j (by omega), List.getD_eq_getElem?_getD, hj]
      rfl
    · obtain ⟨j, hj⟩ := List.getElem?_of_mem hu
      have hlt := (List.getElem?_eq_some_iff.1 hj).1
      rw [k2] at hlt
      have hc : 0 < c := by
        rcases Nat.eq_zero_or_pos c with e | e
        · subst e; omega
        · exact e
      have hi : j / c < es.length := Nat.div_lt_of_lt_mul (by rw [Nat.mul_comm]; exact hlt)
      have hm : j % c < c := Nat.mod_lt _ hc
      have e : j / c * c + j % c = j := by rw [Nat.mul_comm]; exact Nat.div_add_mod j c
      have := ((k1 (j / c) hi).2 (j % c) hm).2
      rw [e, List.getD_eq_getElem?_getD, hj] at this
      exact this
theorem RowRep.append {I : Mem} {c : Nat} {es fs : List PV} {xs ys : List Value} (h : RowRep I c es xs) (k : RowRep I c fs ys) (hl : xs.length = es.length * c) : RowRep I c (es ++ fs) (xs ++ ys) := by
  intro i hi
  simp only [List.length_append] at hi
  by_cases h1 : i < es.length
  · have e1 : (es ++ fs).getD i .any = es.getD i .any := by simp [List.getD_eq_getElem?_getD, List.getElem?_append_left h1]
    rw [e1]
    refine ⟨(h i h1).1, fun j hj => ?_⟩
    have hlt : i * c + j < xs.length := by
      have := Nat.mul_le_mul_right c (show i + 1 ≤ es.length from h1)
      rw [Nat.add_mul] at this
      omega
    have e2 : (xs ++ ys).getD (i * c + j) undef = xs.getD (i * c + j) undef := by simp only [List.getD_eq_getElem?_getD, List.getElem?_append_left hlt]
    rw [e2]
    exact (h i h1).2 j hj
  · have e1 : (es ++ fs).getD i .any = fs.getD (i - es.length) .any := by simp only [List.getD_eq_getElem?_getD]; rw [List.getElem?_append_right (by omega)]
    rw [e1]
    refine ⟨(k _ (by omega)).1, fun j hj => ?_⟩
    have hge : xs.length ≤ i * c + j := by
      have := Nat.mul_le_mul_right c (show es.length ≤ i by omega)
      omega
    have e3 : i * c + j - xs.length = (i - es.length) * c + j := by rw [hl, Nat.sub_mul]; have := Nat.mul_le_mul_right c (show es.length ≤ i by omega); omega
    have e2 : (xs ++ ys).getD (i * c + j) undef = ys.getD ((i - es.length) * c + j) undef := by
      simp only [List.getD_eq_getElem?_getD]
      rw [List.getElem?_append_right hge, e3]
    rw [e2]
    exact (k _ (by omega)).2 j hj
theorem RowRep.nil (I : Mem) (c : Nat) (xs : List Value) : RowRep I c [] xs := fun i hi => by simp at hi
theorem run_app (hE : EnvOk P E tB) {X : Cx} {I : Mem} {t e : TypeId} (ht : E.ty t = .slice e) {w : World} {v y : Value} {es fs : List PV} {xs : List Value} (ty : TypeId) (hown : w.ownsRow X.B e (E.sz e) v es.length xs) (hrow : RowRep I (E.sz e) es xs) (hs : SliceAt X I w (E.sz e) fs y)
    (hlim : es.length + fs.length ≤ LIM) (hB : X.B ≤ w.heap.size) :
    ∃ v' w' zs, (Builtin.append_ #[t, t] ty #[v, y]).run P w = .ok v' w' ∧ w'.ownsRow X.B e (E.sz e) v' (es ++ fs).length zs ∧ RowRep I (E.sz e) (es ++ fs) zs ∧ w.grownBy w' v.ownBlock ∧ (v'.ownBlock = v.ownBlock ∨ v'.ownBlock = some w.heap.size) := by
  obtain ⟨hu, i, z, hi, hsz, hz, hzc, hpos, hby, h64⟩ := hE.slice t e ht
  rcases hs.cells with ⟨rfl, rfl⟩ | ⟨ad, cap, ys, rfl, k1, k2, k3, k4⟩
  · have hr := run_append_owned_none (P := P) w X.B t ty e i (E.sz e) hu hi v es.length xs hown
    refine ⟨v, w, xs, hr, by simpa using hown, by simpa using hrow, ⟨rfl, rfl, rfl, Nat.le_refl _, fun _ _ _ => rfl⟩, .inl rfl⟩
  · have hl : es.length + fs.length ≤ 1099511627776 := hlim
    obtain ⟨v', w', h1, h2, h3, _, h5⟩ := run_append_own_at (P := P) w X.B t ty e i z (E.sz e) i.bytes hu hi hz hsz rfl hzc hpos v es.length xs hown ad fs.length cap ys k2 k3 k4 (by simp only [maxLen]; omega) (by
      have := Nat.mul_le_mul hl hby
      omega) hB
    refine ⟨v', w', xs ++ ys, h1, by rw [List.length_append]; exact h2, hrow.append k1 hown.1, h3, h5⟩
theorem drop_map {α β : Type} (f : α → β) (d : Nat) : ∀ l : List (Nat × α), Dip.drop d (l.map fun x => (x.1, f x.2)) = (Dip.drop d l).map fun x => (x.1, f x.2)
  | [] => rfl
  | x :: l => by
    simp only [List.map_cons, Dip.drop]
    cases Nat.beq d x.1
    · simp only [cond_false, List.map_cons, drop_map f d l]
    · simp only [cond_true, drop_map f d l]
theorem drop_drop {α : Type} (d : Nat) : ∀ l : List (Nat × α), Dip.drop d (Dip.drop d l) = Dip.drop d l
  | [] => rfl
  | x :: l => by
    simp only [Dip.drop]
    cases h : Nat.beq d x.1
    · simp only [cond_false, Dip.drop, h, drop_drop d l]
    · simp only [cond_true, drop_drop d l]
theorem CV.strike_strike (r : Nat) (v : CV) : (v.strike r).strike r = v.strike r := by
  cases v with
  | orow q => simp only [CV.strike]; cases h : Nat.beq q r <;> simp [CV.strike, h]
  | osub q a b => simp only [CV.strike]; cases h : Nat.beq q r <;> simp [CV.strike, h]
  | ptr q o => simp only [CV.strike]; cases h : Nat.beq q r <;> simp [CV.strike, h]
  | ptrE q i o => simp only [CV.strike]; cases h : Nat.beq q r <;> simp [CV.strike, h]
  | fn f rs => simp only [CV.strike]; cases h : rs.any (Nat.beq r ·) <;> simp [CV.strike, h]
  | _ => rfl
theorem GV.strike_strike (r : Nat) (v : GV) : (v.map (CV.strike r)).map (CV.strike r) = v.map (CV.strike r) := by
  cases v <;> simp [GV.map, CV.strike_strike]
theorem Ob.strike_strike (r : Nat) (v : Ob) : (v.map (CV.strike r)).map (CV.strike r) = v.map (CV.strike r) := by
  cases v <;> simp [Ob.map, CV.strike_strike]
theorem St.strike_strike (d : Nat) (st : St) : (st.strike d).strike d = st.strike d := by
  simp only [St.strike, St.map, drop_map, drop_drop, List.map_map]
  congr 1
  · apply List.map_congr_left
    intro x _
    simp [GV.strike_strike]
  · apply List.map_congr_left
    intro x _
    simp [Ob.strike_strike]
theorem Sim.moveRow {d : Nat} {X : Cx} {n : Nat} {I : Mem} {μ : Locs} {st : St} {a : Act} {w : World} (h : Sim X n I μ (st.strike d) a w) (e : TypeId) (es : List PV) (v : Value) (xs : List Value)
    (ho : w.ownsRow X.B e (X.E.sz e) v es.length xs) (hr : RowRep I (X.E.sz e) es xs)
    (hf : ∀ b, v.ownBlock = some b → (∀ r o l', look (st.strike d).h r = some o → μ r = some l' → l'.blk ≠ some b) ∧ (∀ p, I b p = none) ∧ (X.S b ∨ X.w1.heap.size ≤ b))
    (hnew : ∀ q p, look (st.strike d).h q = some p → p.isBld = true → (Ob.row e es).isByte X.E = false) :
    Sim X n I (upd μ d (.row v (X.E.sz e))) (newOb d (.row e es) (st.strike d)) a w := by
  have h1 : Sim X n I (upd μ d (.row v (X.E.sz e))) ((st.strike d).strike d) a w := h.strike d fun k hk => upd_ne μ _ hk
  rw [St.strike_strike] at h1
  refine ⟨h1.size, h1.defers, h1.t, ?_, h1.im, h1.bw, h1.fr, h1.cx, h1.base⟩
  refine h1.h.new' (strike_none d st) (upd_same μ d _) ⟨v, xs, upd_same μ d _, ho, hr⟩ ?_ ?_
  · intro b hb
    obtain ⟨f1, f2, f3⟩ := hf b hb
    refine ⟨fun r o l' hr hl => f1 r o l' hr ?_, f2, f3⟩
    have hne : r ≠ d := fun e => by rw [e, strike_none] at hr; cases hr
    rw [← upd_ne μ (.row v (X.E.sz e)) hne]
    exact hl
  · intro q p hp
    exact ⟨fun e => (by cases e), fun e => ⟨rfl, hnew q p hp e⟩⟩
theorem two_args {args : Array Operand} {a : Act} (h : args.size = 2) : args.map a.eval = #[a.eval (args.getD 0 (.const .nilIface)), a.eval (args.getD 1 (.const .nilIface))] := by
  apply Array.ext
  · simp [h]
  · intro i h1 h2
    have : i = 0 ∨ i = 1 := by simp at h2; omega
    rcases this with e | e <;> subst e <;> simp [Array.getD, h]
theorem two_types {ts : Array TypeId} (h : ts.size = 2) : ts = #[ts.getD 0 0, ts.getD 1 0] := by
  apply Array.ext
  · simp [h]
  · intro i h1 h2
    have : i = 0 ∨ i = 1 := by simp at h2; omega
    rcases this with e | e <;> subst e <;> simp [Array.getD, h]
theorem append_own {X : Cx} (hE : EnvOk P X.E tB) {n : Nat} {I : Mem} {μ : Locs} {st : St} {a : Act} {w : World} {q : Nat} {t e' : TypeId} (ty : TypeId) {es fs : List PV} {v0 y : Value} (ht : X.E.ty t = .slice e') (hr : RowsOk μ) (hs : Sim X n I μ st a w) (hol : look st.h q = some (.row e' es)) (hv : RepC I μ (.orow q) v0)
    (hsl : SliceAt X I w (X.E.sz e') fs y) (hlim : es.length + fs.length ≤ LIM) :
    ∃ v' w', (Builtin.append_ #[t, t] ty #[v0, y]).run P w = .ok v' w' ∧ (RowsOk (upd μ q (.row v' (X.E.sz e'))) ∧ Keep μ (upd μ q (.row v' (X.E.sz e')))) ∧ Sim X n I (upd μ q (.row v' (X.E.sz e'))) (moveRow q (.row e' (es ++ fs)) st) a w' := by
  obtain ⟨v, xs, h1, h2, h3⟩ := hs.h.ok q _ hol
  obtain ⟨c', h4⟩ := hv
  rw [h1] at h4
  injection h4 with h4
  injection h4 with h4 h4'
  obtain ⟨v', w', zs, k1, k2, k3, k4, k5⟩ := run_app (X := X) hE ht ty h2 h3 hsl hlim hs.bw
  refine ⟨v', w', (by rw [← h4]; exact k1), ⟨hr.upd q _ ?_, Keep.upd μ _ (.inr ⟨_, _, h1⟩)⟩, ?_⟩
  · intro v1 c1 e1
    injection e1 with e1 _
    subst e1
    rcases k2.2 with ⟨z1, _⟩ | ⟨g, cap, cur, z1, _⟩
    · exact ⟨_, _, _, z1⟩
    · exact ⟨_, _, _, z1⟩
  · have hs1 := hs.strike q (ν := μ) fun _ _ => rfl
    have hl1 : (Loc.row v (X.E.sz e')).blk = v.ownBlock := rfl
    have hA := hs.aside hol h1 (fun b hb => by
      by_cases he : e' = X.E.tb
      · exact .inr (by simp [Ob.isByte, he])
      · rcases h2.2 with ⟨z1, _⟩ | ⟨g, cap, cur, z1, _, zg, _⟩
        · rw [z1] at hb; simp [Loc.blk, Value.ownBlock] at hb
        · rw [z1] at hb
          simp only [Loc.blk, Value.ownBlock, Option.some.injEq] at hb
          subst hb
          exact .inl ⟨cur, e', (0, 0), zg, he⟩)
    have hA' : Aside X I μ w (st.strike q).h v.ownBlock := by
      have key : ∀ k p, look (st.strike q).h k = some p → ∃ p', look (Dip.drop q st.h) k = some p' ∧ p.isBld = p'.isBld := by
        intro k p hp
        simp only [St.strike, St.map, look_map] at hp
        obtain ⟨p', e1, e2⟩ := Option.map_eq_some_iff.1 hp
        exact ⟨p', e1, by rw [← e2, Ob.map_isBld]⟩
      refine ⟨?_, hA.own, hA.imm, ?_⟩
      · intro k hk r p l hp hl
        obtain ⟨p', e1, _⟩ := key r p hp
        exact hA.free k hk r p' l e1 hl
      · intro k hk
        rcases hA.byte k hk with z | z
        · exact .inl z
        · refine .inr fun r p hp => ?_
          obtain ⟨p', e1, e2⟩ := key r p hp
          rw [e2]
          exact z r p' e1
    have hs2 := hs1.grown k4 hA'
    refine Sim.moveRow (st := st) (d := q) hs2 e' (es ++ fs) v' zs k2 k3 ?_ ?_
    · intro b hb
      rcases k5 with z | z
      · rw [z] at hb
        refine ⟨fun k p l hp hl => hA'.free b hb k p l hp hl, hA'.imm b hb, hA'.own b hb⟩
      · rw [z] at hb
        injection hb with hb
        subst hb
        exact hs1.fresh (Nat.le_refl _)
    · intro k p hp hbl
      rw [look_strike] at hp
      by_cases ek : k = q
      · simp [ek] at hp
      · simp only [ek, if_false] at hp
        obtain ⟨p', e1, e2⟩ := Option.map_eq_some_iff.1 hp
        rw [← e2, Ob.map_isBld] at hbl
        exact (hs.h.alone k q p' _ e1 hol ek hbl).2
theorem append_inv (hE : EnvOk P E tB) {o : Oper} {d : Nat} (hd : d < 1000) {st : St} {args : Array Operand} {ts : Array TypeId} {K : GV → St → Option R} (ho : o.op = .call { callee := .builtin .append, args := args, argTypes := ts })
    (h : (bif Nat.beq ts.size 2 && Nat.beq args.size 2 then evAppend E d st (ts.getD 0 0) (args.getD 0 (.const .nilIface)) (args.getD 1 (.const .nilIface)) (ts.getD 1 0) K else none) = some r) :
    ∃ v st', K v st' = some r ∧ OpDoes P E tB W0 o st v st' := by
  cases hsz : Nat.beq ts.size 2 && Nat.beq args.size 2
  · simp [hsz] at h
  · simp only [hsz, cond_true] at h
    simp only [Bool.and_eq_true, nbeq, decide_eq_true_eq] at hsz
    unfold evAppend at h
    split at h
    · rename_i e ht hbt
      have hbt' : ts.getD 0 0 = ts.getD 1 0 := Nat.eq_of_beq_eq_true hbt
      have hrun : ∀ (a : Act) (w w' : World) (v y v' : Value), a.eval (args.getD 0 (.const .nilIface)) = v → a.eval (args.getD 1 (.const .nilIface)) = y → (Builtin.append_ #[ts.getD 0 0, ts.getD 0 0] o.type #[v, y]).run P w = .ok v' w' →
          (execOp a.eval o).run P w = .ok (.value v') w' := by
        intro a w w' v y v' hv hy hr
        rw [run_builtin ho, two_types hsz.1, two_args hsz.2, hv, hy, ← hbt']
        exact run_value hr
      obtain ⟨fs, h, hw⟩ := wSl_inv h
      have hpos : 0 < E.sz e := by
        obtain ⟨_, _, _, _, _, _, _, hp, _⟩ := hE.slice _ e ht
        exact hp
      split at h
      · rename_i q hq
        split at h
        · rename_i e' es hol
          cases hc : Nat.beq e' e && decide (es.length + fs.length ≤ LIM)
          · simp [hc] at h
          · simp only [hc, cond_true] at h
            simp only [Bool.and_eq_true, nbeq, decide_eq_true_eq] at hc
            obtain ⟨rfl, hlim⟩ := hc
            refine ⟨_, _, h, fun {X n I μ a w} hX hB hW hr hs => ?_⟩
            subst hX
            have hv := hs.evT (ts.getD 0 0) (args.getD 0 (.const .nilIface))
            rw [hq] at hv
            obtain ⟨v', w', k1, k2, k3⟩ := append_own (X := X) hE o.type ht hr hs hol hv (hw rfl hpos hs (hs.evT _ _)) hlim
            exact Upon.of_run (hrun a w w' _ _ v' rfl rfl k1) ⟨I, _, NewI.refl X I, k2, k3, ⟨_, upd_same μ q _⟩⟩
        · cases h
      · rename_i c hq
        by_cases hlim : fs.length ≤ LIM
        · simp only [hlim, decide_true, cond_true] at h
          obtain ⟨hok, h⟩ := wNew_inv h
          refine ⟨_, _, h, row_does hd hok fun {X n I μ a w} hX hr hs => ?_⟩
          have hv := hs.evT (ts.getD 0 0) (args.getD 0 (.const .nilIface))
          rw [hX, hq] at hv
          have hv' : a.eval (args.getD 0 (.const .nilIface)) = .slice none 0 0 := hv
          have hy := hs.evT (ts.getD 1 0) (args.getD 1 (.const .nilIface))
          rw [hX] at hy
          obtain ⟨v', w', zs, k1, k2, k3, k4, k5⟩ := run_app (X := X) (I := I) (es := []) hE ht o.type (World.ownsRow_nil w X.B e (E.sz e)) (RowRep.nil _ _ _) (hw hX hpos hs hy) (by simpa using hlim) hs.bw
          refine ⟨I, v', w', zs, NewI.refl X I, hs, k4, hrun a w w' _ _ v' hv' rfl k1, k2, k3, fun b hb => ?_⟩
          rcases k5 with z | z
          · rw [z] at hb
            simp [Value.ownBlock] at hb
          · rw [z] at hb
            injection hb with hb
            omega
        · simp [hlim] at h
      · cases h
    · cases h
theorem runesFrom_ints (s : ByteArray) : ∀ (b i : Nat) (acc : Array Value), (∀ v ∈ acc.toList, ∃ n, v = .int .i32 n) → (∀ v ∈ (Conv.runesFrom s b i acc).toList, ∃ n, v = .int .i32 n) ∧ (Conv.runesFrom s b i acc).size ≤ acc.size + b
  | 0, i, acc, h => ⟨h, Nat.le_refl _⟩
  | b + 1, i, acc, h => by
    simp only [Conv.runesFrom]
    split
    · obtain ⟨h1, h2⟩ := runesFrom_ints s b (i + (Utf8.decode s i).2) (acc.push (.int .i32 (Int.ofNat (Utf8.decode s i).1))) (by
        intro v hv
        simp only [Array.toList_push, List.mem_append, List.mem_singleton] at hv
        rcases hv with hv | hv
        · exact h v hv
        · exact ⟨_, hv⟩)
      refine ⟨h1, ?_⟩
      simp only [Array.size_push] at h2
      omega
    · exact ⟨h, by omega⟩
theorem runes_inv (hE : EnvOk P E tB) {o : Oper} {d : Nat} (hd : d < 1000) {st : St} {s t e : TypeId} {x : Operand} {K : GV → St → Option R} (ho : o.op = .convert s t x) (hs0 : E.ty s = .str) (ht : E.ty t = .slice e) (he : E.ty e = .int .i32)
    (h : (wStr (st.ev x) fun a => bif decide (a.length ≤ LIM) then wNew E d (.row e (runesOf a)) (st.strike d) fun st => K (.c (.orow d)) st else none) = some r) :
    ∃ v st', K v st' = some r ∧ OpDoes P E tB W0 o st v st' := by
  obtain ⟨b, hb, h⟩ := wStr_inv h
  by_cases hlim : b.length ≤ LIM
  · simp only [hlim, decide_true, cond_true] at h
    obtain ⟨hok, h⟩ := wNew_inv h
    have hl : b.length ≤ 1099511627776 := hlim
    have hsc : isScalar (E.ty e) = true := by rw [he]; rfl
    obtain ⟨_, _, _, _, _, _, hsz⟩ := hE.scalar e hsc
    refine ⟨_, _, h, row_does hd hok fun {X n I μ a w} hX hr hs => ?_⟩
    have hev := hs.ev x
    rw [hb] at hev
    have hx := rep_str hev
    obtain ⟨r1, r2⟩ := runesFrom_ints ⟨b.toArray⟩ b.length 0 #[] (by simp)
    have hsize : (⟨b.toArray⟩ : ByteArray).size = b.length := by simp [ByteArray.size]
    simp only [List.size_toArray, List.length_nil, Nat.zero_add] at r2
    have hrun := run_runes_of_string (P := P) w s t e ⟨b.toArray⟩ (hE.str s hs0) (hE.slice t e ht).1 (hE.int e _ he) (by rw [hsize]; omega)
    rw [hsize] at hrun
    have hlen : (runesOf b).length = (Conv.runesFrom ⟨b.toArray⟩ b.length 0 #[]).size := by simp [runesOf]
    generalize hq : Conv.runesFrom ⟨b.toArray⟩ b.length 0 #[] = q at hrun r1 r2 hlen
    refine ⟨I, _, _, q.toList, NewI.refl X I, hs, ?_, by simp only [execOp, ho, hx]; exact run_value hrun, ⟨by simp [hlen, hsz], .inr ⟨w.heap.size, _, _, by rw [hlen], hs.bw, heap_alloc_new w.drew _, by rw [hlen]; exact grownCap_ge _ _ _ _, ?_, ?_, ?_⟩⟩, ?_, fun c hc => by simp [Value.ownBlock] at hc; omega⟩
    · exact ⟨rfl, rfl, rfl, by simp, fun k hk _ => heap_alloc_old w.drew _ k hk⟩
    · refine grownCap_le_maxLen w _ _ e ?_
      simp only [maxLen]
      omega
    · have := grownCap_ge w q.size 0 e
      simp [hsz]
      omega
    · rw [hlen, hsz, Nat.mul_one, Array.toList_append]
      exact List.take_left' (by simp)
    · intro i hi
      rw [hlen] at hi
      obtain ⟨m, hm⟩ := r1 q[i] (by simp)
      have e1 : (runesOf b).getD i .any = .int .i32 m := by
        simp only [runesOf, hq, List.getD_eq_getElem?_getD, List.getElem?_map]
        simp [hi, hm]
      rw [e1, hsz]
      refine ⟨rfl, fun j hj => ?_⟩
      have : j = 0 := by omega
      subst this
      have e2 : q.toList.getD (i * 1 + 0) undef = .int .i32 m := by
        simp [List.getD_eq_getElem?_getD, hi, hm]
      rw [e2]
      exact ⟨RepP.int _ _, rfl⟩
  · simp [hlim] at h
end
end Go.Dip
end
/- An ideal semantics of the model's code, part 20: calls that are handed objects. -/
section
set_option linter.unusedVariables false
set_option linter.unusedSimpArgs false
namespace Go.Dip
section
theorem isIn_iff {ks : List Nat} {r : Nat} : isIn ks r = true ↔ r ∈ ks := by
  unfold isIn
  rw [List.any_eq_true]
  constructor
  · rintro ⟨x, hx, h⟩
    rw [nbeq, decide_eq_true_eq] at h
    rw [h]; exact hx
  · intro h
    exact ⟨r, h, by simp⟩
theorem keysIn_iff {ks l : List Nat} : keysIn ks l = true ↔ ∀ r, r ∈ l → r ∈ ks := by
  unfold keysIn
  rw [List.all_eq_true]
  exact ⟨fun h r hr => isIn_iff.1 (h r hr), fun h r hr => isIn_iff.2 (h r hr)⟩
theorem pos_spec {ks : List Nat} {r : Nat} (h : r ∈ ks) : oldKey ks (pos ks r) = true ∧ ks.getD (pos ks r - 1000) 0 = r := by
  have h1 : ks.findIdx (Nat.beq r ·) < ks.length := List.findIdx_lt_length_of_exists ⟨r, h, by simp⟩
  have h2 := @List.findIdx_getElem _ (Nat.beq r ·) ks h1
  rw [nbeq, decide_eq_true_eq] at h2
  have e : pos ks r - 1000 = ks.findIdx (Nat.beq r ·) := by unfold pos; omega
  refine ⟨?_, ?_⟩
  · simp only [oldKey, Bool.and_eq_true, Nat.ble_eq, Nat.blt_eq]
    unfold pos
    omega
  · rw [e, List.getD_eq_getElem?_getD, List.getElem?_eq_getElem h1, Option.getD_some]
    exact h2.symm
theorem oldKey_iff {ks : List Nat} {q : Nat} : oldKey ks q = true ↔ 1000 ≤ q ∧ q < 1000 + ks.length := by
  simp only [oldKey, Bool.and_eq_true, Nat.ble_eq, Nat.blt_eq]
theorem oldKey_mem {ks : List Nat} {q : Nat} (h : oldKey ks q = true) : ks.getD (q - 1000) 0 ∈ ks := by
  obtain ⟨h1, h2⟩ := oldKey_iff.1 h
  have : q - 1000 < ks.length := by omega
  rw [List.getD_eq_getElem?_getD, List.getElem?_eq_getElem this]
  simp
theorem RepC.ren {I : Mem} {μ ν : Locs} {f : Nat → Nat} {v : CV} {x : Value} (h : RepC I μ v x) (hk : ∀ r, r ∈ v.keys → ν (f r) = μ r) : RepC I ν (v.ren f) x := by
  cases v with
  | p v => exact h
  | nils c => exact h
  | orow r => obtain ⟨c, h1⟩ := h; exact ⟨c, (hk r (by simp [CV.keys])).trans h1⟩
  | osub r a b => obtain ⟨l, c, h1, h2⟩ := h; exact ⟨l, c, (hk r (by simp [CV.keys])).trans h1, h2⟩
  | ptr r o =>
    have e := hk r (by simp [CV.keys])
    rcases h with ⟨b, h1, h2⟩ | ⟨b, bs, h1, h2⟩
    · exact .inl ⟨b, e.trans h1, h2⟩
    · exact .inr ⟨b, bs, e.trans h1, h2⟩
  | ptrE r i o => obtain ⟨g, n, cap, c, h1, h2⟩ := h; exact ⟨g, n, cap, c, (hk r (by simp [CV.keys])).trans h1, h2⟩
  | iptr c es i o => exact h
  | fn g rs =>
    obtain ⟨vs, h1, h2, h3⟩ := h
    refine ⟨vs, h1, by simpa using h2, fun j r hj => ?_⟩
    rw [List.getElem?_map] at hj
    obtain ⟨q, hq, rfl⟩ := Option.map_eq_some_iff.1 hj
    have e := hk q (by simpa [CV.keys] using List.mem_of_getElem? hq)
    rcases h3 j q hq with ⟨b, h1, h2⟩ | ⟨b, bs, h1, h2⟩
    · exact .inl ⟨b, e.trans h1, h2⟩
    · exact .inr ⟨b, bs, e.trans h1, h2⟩
  | glob g => exact h
theorem RepCs.ren {I : Mem} {μ ν : Locs} {f : Nat → Nat} {cs : List CV} {vs : List Value} (h : RepCs I μ cs vs) (hk : ∀ r, r ∈ cs.flatMap CV.keys → ν (f r) = μ r) : RepCs I ν (cs.map (CV.ren f)) vs := by
  refine ⟨by simpa using h.1, fun i v hv => ?_⟩
  rw [List.getElem?_map] at hv
  obtain ⟨u, hu, rfl⟩ := Option.map_eq_some_iff.1 hv
  exact ⟨(h.2 i u hu).1.ren fun r hr => hk r (by simp only [List.mem_flatMap]; exact ⟨u, List.mem_of_getElem? hu, hr⟩), (h.2 i u hu).2⟩
theorem RepG.ren {I : Mem} {μ ν : Locs} {f : Nat → Nat} {v : GV} {x : Value} (h : RepG I μ v x) (hk : ∀ r, r ∈ v.keys → ν (f r) = μ r) : RepG I ν (v.map (CV.ren f)) x := by
  cases v with
  | c v => exact RepC.ren h hk
  | agg cs => obtain ⟨vs, h1, h2⟩ := h; exact ⟨vs, h1, h2.ren hk⟩
  | tup cs =>
    obtain ⟨vs, h1, h2, h3⟩ := h
    refine ⟨vs, h1, by simpa using h2, fun i v hv => ?_⟩
    rw [List.getElem?_map] at hv
    obtain ⟨u, hu, rfl⟩ := Option.map_eq_some_iff.1 hv
    exact (h3 i u hu).ren fun r hr => hk r (by simp only [GV.keys, List.mem_flatMap]; exact ⟨u, List.mem_of_getElem? hu, hr⟩)
theorem handed_mem {h : List (Nat × Ob)} {ks : List Nat} : ∀ {l : List Nat} {x : Nat × Ob}, x ∈ handed h ks l → ∃ r o, r ∈ l ∧ look h r = some o ∧ x = (pos ks r, o.map (CV.ren (pos ks)))
  | [], x, hx => by simp [handed] at hx
  | r :: l, x, hx => by
    simp only [handed] at hx
    split at hx
    · rename_i o ho
      rcases List.mem_cons.1 hx with e | hx
      · exact ⟨r, o, by simp, ho, e⟩
      · obtain ⟨r', o', h1, h2, h3⟩ := handed_mem hx
        exact ⟨r', o', by simp [h1], h2, h3⟩
    · obtain ⟨r', o', h1, h2, h3⟩ := handed_mem hx
      exact ⟨r', o', by simp [h1], h2, h3⟩
theorem Ob.ren_isBld (f : CV → CV) (o : Ob) : (o.map f).isBld = o.isBld := Ob.map_isBld f o
/-! Striking one key after the other. -/
inductive ObLe : Ob → Ob → Prop
  | refl (o : Ob) : ObLe o o
  | box (cs ds : List CV) (h : ∀ I μ vs, RepCs I μ cs vs → RepCs I μ ds vs) : ObLe (.box cs) (.box ds)
theorem ObLe.trans {a b c : Ob} (h : ObLe a b) (k : ObLe b c) : ObLe a c := by
  cases h with
  | refl => exact k
  | box cs ds h =>
    cases k with
    | refl => exact .box cs ds h
    | box _ es k => exact .box cs es fun I μ vs x => k I μ vs (h I μ vs x)
theorem ObLe.strike (r : Nat) (o : Ob) : ObLe o (o.map (CV.strike r)) := by
  cases o with
  | box cs => exact .box _ _ fun I μ vs h => h.strike r
  | row e es => exact .refl _
  | bld s => exact .refl _
theorem ObLe.isBld {a b : Ob} (h : ObLe a b) : b.isBld = a.isBld := by cases h <;> rfl
theorem Ob.strike_keys (r : Nat) (o : Ob) : r ∉ (o.map (CV.strike r)).keys ∧ ∀ k, k ∈ (o.map (CV.strike r)).keys → k ∈ o.keys := by
  cases o with
  | box cs =>
    simp only [Ob.map, Ob.keys, List.mem_flatMap, List.mem_map]
    refine ⟨?_, ?_⟩
    · rintro ⟨v, ⟨u, _, rfl⟩, hr⟩
      exact (CV.strike_keys r u).1 hr
    · rintro k ⟨v, ⟨u, hu, rfl⟩, hr⟩
      exact ⟨u, hu, (CV.strike_keys r u).2 k hr⟩
  | row e es => simp [Ob.map, Ob.keys]
  | bld s => simp [Ob.map, Ob.keys]
theorem GV.strike_sub (r : Nat) (v : GV) : ∀ k, k ∈ (v.map (CV.strike r)).keys → k ∈ v.keys := by
  intro k hk
  cases v with
  | c v => exact (CV.strike_keys r v).2 k hk
  | agg cs =>
    simp only [GV.map, GV.keys, List.mem_flatMap, List.mem_map] at hk ⊢
    obtain ⟨v, ⟨u, hu, rfl⟩, hr⟩ := hk
    exact ⟨u, hu, (CV.strike_keys r u).2 k hr⟩
  | tup cs =>
    simp only [GV.map, GV.keys, List.mem_flatMap, List.mem_map] at hk ⊢
    obtain ⟨v, ⟨u, hu, rfl⟩, hr⟩ := hk
    exact ⟨u, hu, (CV.strike_keys r u).2 k hr⟩
theorem strikeAll_t : ∀ (l : List Nat) (st : St) (i : Nat) (v : GV), look (strikeAll l st).t i = some v → ∃ u, look st.t i = some u ∧ (∀ I μ x, RepG I μ u x → RepG I μ v x) ∧ ∀ k, k ∈ v.keys → k ∈ u.keys ∧ k ∉ l
  | [], st, i, v, h => ⟨v, h, fun _ _ _ h => h, fun k hk => ⟨hk, by simp⟩⟩
  | r :: l, st, i, v, h => by
    obtain ⟨u, h1, h2, h3⟩ := strikeAll_t l (st.strike r) i v h
    rw [look_strike_t] at h1
    obtain ⟨u0, h4, rfl⟩ := Option.map_eq_some_iff.1 h1
    refine ⟨u0, h4, fun I μ x hx => h2 I μ x (hx.strike r), fun k hk => ?_⟩
    obtain ⟨h5, h6⟩ := h3 k hk
    refine ⟨GV.strike_sub r u0 k h5, fun hm => ?_⟩
    rcases List.mem_cons.1 hm with e | hm
    · exact GV.strike_keys r u0 (e ▸ h5)
    · exact h6 hm
theorem strikeAll_h : ∀ (l : List Nat) (st : St) (q : Nat) (o : Ob), look (strikeAll l st).h q = some o → ∃ p, look st.h q = some p ∧ ObLe p o ∧ ∀ k, k ∈ o.keys → k ∈ p.keys ∧ k ∉ l
  | [], st, q, o, h => ⟨o, h, .refl o, fun k hk => ⟨hk, by simp⟩⟩
  | r :: l, st, q, o, h => by
    obtain ⟨p, h1, h2, h3⟩ := strikeAll_h l (st.strike r) q o h
    rw [look_strike] at h1
    by_cases e : q = r
    · simp [e] at h1
    · simp only [e, if_false] at h1
      obtain ⟨p0, h4, rfl⟩ := Option.map_eq_some_iff.1 h1
      refine ⟨p0, h4, (ObLe.strike r p0).trans h2, fun k hk => ?_⟩
      obtain ⟨h5, h6⟩ := h3 k hk
      refine ⟨(Ob.strike_keys r p0).2 k h5, fun hm => ?_⟩
      rcases List.mem_cons.1 hm with e | hm
      · exact (Ob.strike_keys r p0).1 (e ▸ h5)
      · exact h6 hm
theorem look_dropAll {α : Type} : ∀ (ks : List Nat) (l : List (Nat × α)) (q : Nat) (o : α), look (dropAll ks l) q = some o → q ∉ ks ∧ look l q = some o
  | [], l, q, o, h => ⟨by simp, h⟩
  | r :: ks, l, q, o, h => by
    obtain ⟨h1, h2⟩ := look_dropAll ks (Dip.drop r l) q o h
    rw [look_drop] at h2
    by_cases e : q = r
    · simp [e] at h2
    · simp only [e, if_false] at h2
      exact ⟨by simp [e, h1], h2⟩
theorem okHeap_alone {E : Env} : ∀ {h : List (Nat × Ob)}, okHeap E h = true → ∀ r r' o o', look h r = some o → look h r' = some o' → r ≠ r' → o.isBld = true → o'.isBld = false ∧ o'.isByte E = false
  | [], _, r, r', o, o', ho, _, _, _ => by simp [look] at ho
  | x :: h, hk, r, r', o, o', ho, ho', hne, hb => by
    simp only [okHeap, Bool.and_eq_true] at hk
    have hnew : ∀ y, y ∈ h → (x.2.isBld = true → y.2.isBld = false ∧ y.2.isByte E = false) ∧ (y.2.isBld = true → x.2.isBld = false ∧ x.2.isByte E = false) := by
      intro y hy
      have hok := hk.1
      unfold okNew at hok
      cases hb : x.2.isBld
      · rw [hb] at hok
        simp only [cond_false] at hok
        refine ⟨fun e => (by cases e), fun e => ⟨rfl, ?_⟩⟩
        cases hz : x.2.isByte E
        · rfl
        · rw [hz] at hok
          simp only [cond_true, List.all_eq_true] at hok
          have := hok _ hy
          simp [e] at this
      · rw [hb] at hok
        simp only [cond_true, List.all_eq_true] at hok
        have := hok _ hy
        simp only [Bool.and_eq_true, Bool.not_eq_true'] at this
        exact ⟨fun _ => this, fun e => (by rw [this.1] at e; cases e)⟩
    rw [look_cons] at ho ho'
    by_cases e : r = x.1
    · rw [if_pos e] at ho
      injection ho with ho
      subst ho
      rw [if_neg (fun e' => hne (e.trans e'.symm))] at ho'
      exact (hnew _ (look_mem h r' o' ho')).1 hb
    · rw [if_neg e] at ho
      by_cases e' : r' = x.1
      · rw [if_pos e'] at ho'
        injection ho' with ho'
        subst ho'
        exact (hnew _ (look_mem h r o ho)).2 hb
      · rw [if_neg e'] at ho'
        exact okHeap_alone hk.2 r r' o o' ho ho' hne hb
theorem distinct_cons {x : Nat} {l : List Nat} (h : distinct (x :: l) = true) : x ∉ l ∧ distinct l = true := by
  simp only [distinct, Bool.and_eq_true, Bool.not_eq_true'] at h
  exact ⟨fun hm => by rw [isIn_iff.2 hm] at h; exact absurd h.1 (by simp), h.2⟩
def findKey (f : Nat → Nat) : List Nat → Nat → Option Nat
  | [], _ => none
  | q :: l, k => if f q = k then some q else findKey f l k
theorem findKey_some {f : Nat → Nat} : ∀ {l : List Nat} {k q : Nat}, findKey f l k = some q → q ∈ l ∧ f q = k
  | [], k, q, h => by simp [findKey] at h
  | x :: l, k, q, h => by
    simp only [findKey] at h
    split at h
    · rename_i e
      injection h with h
      subst h
      exact ⟨by simp, e⟩
    · obtain ⟨h1, h2⟩ := findKey_some h
      exact ⟨by simp [h1], h2⟩
theorem findKey_of {f : Nat → Nat} : ∀ {l : List Nat} {q : Nat}, distinct (l.map f) = true → q ∈ l → findKey f l (f q) = some q
  | [], q, _, h => by simp at h
  | x :: l, q, hd, h => by
    rw [List.map_cons] at hd
    obtain ⟨h1, h2⟩ := distinct_cons hd
    simp only [findKey]
    rcases List.mem_cons.1 h with e | h
    · subst e; simp
    · have hne : ¬ f x = f q := fun e => h1 (by rw [e]; exact List.mem_map.2 ⟨q, h, rfl⟩)
      rw [if_neg hne]
      exact findKey_of h2 h
theorem look_ren {f : Nat → Nat} {g : Ob → Ob} : ∀ {H : List (Nat × Ob)} {k : Nat}, distinct (H.map fun x => f x.1) = true →
    (∀ o, look (H.map fun x => (f x.1, g x.2)) k = some o → ∃ q p, look H q = some p ∧ f q = k ∧ o = g p) ∧ (look (H.map fun x => (f x.1, g x.2)) k = none → k ∉ H.map fun x => f x.1)
  | [], k, _ => by simp [look]
  | x :: H, k, hd => by
    rw [List.map_cons] at hd
    obtain ⟨h1, h2⟩ := distinct_cons hd
    obtain ⟨i1, i2⟩ := look_ren (k := k) (g := g) h2
    rw [List.map_cons]
    simp only [look_cons]
    refine ⟨fun o ho => ?_, fun ho => ?_⟩
    · by_cases e : k = f x.1
      · rw [if_pos e] at ho
        injection ho with ho
        exact ⟨x.1, x.2, by rw [if_pos rfl], e.symm, ho.symm⟩
      · rw [if_neg e] at ho
        obtain ⟨q, p, j1, j2, j3⟩ := i1 o ho
        refine ⟨q, p, ?_, j2, j3⟩
        rw [if_neg ?_]
        · exact j1
        · intro e'
          subst e'
          exact h1 (List.mem_map.2 ⟨(x.1, p), look_mem H _ _ j1, rfl⟩)
    · by_cases e : k = f x.1
      · rw [if_pos e] at ho
        cases ho
      · rw [if_neg e] at ho
        intro hm
        rcases List.mem_cons.1 hm with e' | hm
        · exact e e'
        · exact i2 ho hm
end
end Go.Dip
end
/- An ideal semantics of the model's code, part 21: what a call that is handed objects leaves. -/
section
set_option linter.unusedVariables false
set_option linter.unusedSimpArgs false
namespace Go.Dip
section
variable {R : Type} {r : R} {P : Program} {E : Env} {tB : TypeId} {W0 : World}
def muIn (ks : List Nat) (μ : Locs) : Locs := fun q => if oldKey ks q = true then μ (ks.getD (q - 1000) 0) else none
theorem muIn_pos {ks : List Nat} {μ : Locs} {r : Nat} (h : r ∈ ks) : muIn ks μ (pos ks r) = μ r := by
  obtain ⟨h1, h2⟩ := pos_spec h
  unfold muIn
  rw [if_pos h1, h2]
def muOut (f : Nat → Nat) (kh : List Nat) (μ ν : Locs) : Locs := fun k => match findKey f kh k with
  | some q => ν q
  | none => μ k
theorem muOut_of {f : Nat → Nat} {kh : List Nat} {μ ν : Locs} {q : Nat} (hd : distinct (kh.map f) = true) (h : q ∈ kh) : muOut f kh μ ν (f q) = ν q := by
  unfold muOut
  rw [findKey_of hd h]
theorem muOut_ne {f : Nat → Nat} {kh : List Nat} {μ ν : Locs} {k : Nat} (h : k ∉ kh.map f) : muOut f kh μ ν k = μ k := by
  unfold muOut
  cases hf : findKey f kh k with
  | none => rfl
  | some q =>
    obtain ⟨h1, h2⟩ := findKey_some hf
    exact absurd (List.mem_map.2 ⟨q, h1, h2⟩) h
theorem ObOk.loc {X : Cx} {I : Mem} {μ : Locs} {w : World} {r : Nat} {o : Ob} (h : ObOk X I μ w r o) : ∃ l, μ r = some l ∧ (l.isRow = false ↔ ∀ e es, o ≠ .row e es) ∧ (∀ b, l.blk = some b → b < w.heap.size) := by
  cases o with
  | box cs =>
    obtain ⟨b, arr, T, h1, h2, h3, _⟩ := h
    exact ⟨_, h1, by simp [Loc.isRow], fun c hc => by simp only [Loc.blk, Option.some.injEq] at hc; subst hc; exact (Array.getElem?_eq_some_iff.1 h3).1⟩
  | row e es =>
    obtain ⟨v, xs, h1, h2, _⟩ := h
    exact ⟨_, h1, by simp [Loc.isRow], fun c hc => (h2.lt c hc).2⟩
  | bld s =>
    obtain ⟨b, base, h1, _, _, h3⟩ := h
    refine ⟨_, h1, by simp [Loc.isRow], fun c hc => ?_⟩
    simp only [Loc.blk, Option.some.injEq] at hc
    subst hc
    rcases h3 with ⟨_, v, k, _⟩ | ⟨_, v, k, _⟩ <;> exact (Array.getElem?_eq_some_iff.1 k).1
theorem ObOk.kept {X X' : Cx} {I J : Mem} {μ : Locs} {w w' : World} {r : Nat} {o : Ob} (hIJ : MemLe I J) (h : ObOk X I μ w r o) (hf : Frame X' w w') (hE : X'.E = X.E) (hneB : X.tB ≠ X.E.tb)
    (hS : ∀ l b, μ r = some l → l.blk = some b → ¬ X'.S b) (hby : X'.hb = true → o.isBld = false ∧ o.isByte X.E = false)
    (hbb : ∀ g cur fz, o.isBld = true → w.heap[g]? = some (.cells cur X.E.tb fz) → ¬ X'.S g) : ObOk X J μ w' r o := by
  have keep : ∀ b arr T fz, w.heap[b]? = some (.cells arr T fz) → ¬ X'.S b → (X'.hb = true → T ≠ X.E.tb) → w'.heap[b]? = some (.cells arr T fz) := by
    intro b arr T fz hb hs ht
    refine hf.keep b _ hb hs fun hh => .inr fun c fz' e => ?_
    injection e with _ e _
    rw [hE] at e
    exact ht hh e
  cases o with
  | box cs =>
    obtain ⟨b, arr, T, h1, h2, h3, h4, h5⟩ := h
    exact ⟨b, arr, T, h1, h2, keep b arr T _ h3 (hS _ b h1 rfl) (fun _ => h4), h4, h5.mono hIJ fun _ _ _ _ => rfl⟩
  | row e es =>
    obtain ⟨v, xs, h1, h2, h3⟩ := h
    refine ⟨v, xs, h1, ⟨h2.1, ?_⟩, h3.mono hIJ⟩
    rcases h2.2 with hn | ⟨g, cap, cur, rfl, hb, hg, rest⟩
    · exact .inl hn
    · refine .inr ⟨g, cap, cur, rfl, hb, keep g cur e _ hg (hS _ g h1 rfl) fun hh e' => ?_, rest⟩
      have := (hby hh).2
      simp [Ob.isByte, e'] at this
  | bld s =>
    obtain ⟨b, base, h1, h2, h2', h3⟩ := h
    refine ⟨b, base, h1, h2, h2', ?_⟩
    have hno : X'.hb = false := by
      cases hh : X'.hb
      · rfl
      · have := (hby hh).1
        cases this
    have one : ∀ p, Lib.BuilderAtF X.tB X.E.tb base b p (Lib.byteCells s) w → Lib.BuilderAtF X.tB X.E.tb base b p (Lib.byteCells s) w' := by
      intro p hp
      obtain ⟨k1, v, k2, k3, k4⟩ := hp
      refine ⟨k1, v, keep b _ _ _ k2 (hS _ b h1 rfl) (fun hh => by rw [hno] at hh; cases hh), ⟨k3.1, ?_⟩, k4⟩
      rcases k3.2 with hn | ⟨g, cap, cur, fz, hv, hbg, hgg, rest⟩
      · exact .inl hn
      · exact .inr ⟨g, cap, cur, fz, hv, hbg, keep g cur _ fz hgg (hbb g cur fz rfl hgg) (fun hh => by rw [hno] at hh; cases hh), rest⟩
    rcases h3 with h3 | h3
    · exact .inl (one _ h3)
    · exact .inr (one _ h3)
theorem ObOk.ren {X X' : Cx} {I : Mem} {μ ν : Locs} {w : World} {r : Nat} {o : Ob} {f : Nat → Nat} (h : ObOk X' I ν w r o) (hE : X'.E = X.E) (hB : X'.B = X.B) (hT : X'.tB = X.tB) (hr : μ (f r) = ν r) (hk : ∀ k, k ∈ o.keys → μ (f k) = ν k)
    (hbld : ∀ b base, ν r = some (.bld b base) → (X'.hb = true ∧ X'.bb ≤ base) ∨ X'.w1.heap.size ≤ base → (X.hb = true ∧ X.bb ≤ base) ∨ X.w1.heap.size ≤ base) : ObOk X I μ w (f r) (o.map (CV.ren f)) := by
  cases o with
  | box cs =>
    obtain ⟨b, arr, T, h1, h2, h3, h4, h5⟩ := h
    exact ⟨b, arr, T, hr.trans h1, hB ▸ h2, h3, hE ▸ h4, h5.ren hk⟩
  | row e es =>
    obtain ⟨v, xs, h1, h2, h3⟩ := h
    rw [hE] at h1 h2 h3
    rw [hB] at h2
    exact ⟨v, xs, hr.trans h1, h2, h3⟩
  | bld s =>
    obtain ⟨b, base, h1, h2, h2', h3⟩ := h
    rw [hE, hT] at h3
    exact ⟨b, base, hr.trans h1, hB ▸ h2, hbld b base h1 h2', h3⟩
theorem ObOk.le' {X : Cx} {I : Mem} {μ ν : Locs} {w : World} {r : Nat} {o o' : Ob} (h : ObOk X I μ w r o) (hle : ObLe o o') (hr : ν r = μ r) (hk : ∀ k, k ∈ o'.keys → ν k = μ k) : ObOk X I ν w r o' := by
  have h' : ObOk X I μ w r o' := by
    cases hle with
    | refl => exact h
    | box cs ds hh =>
      obtain ⟨b, arr, T, h1, h2, h3, h4, h5⟩ := h
      exact ⟨b, arr, T, h1, h2, h3, h4, hh _ _ _ h5⟩
  cases o' with
  | box cs =>
    obtain ⟨b, arr, T, h1, h2, h3, h4, h5⟩ := h'
    exact ⟨b, arr, T, hr.trans h1, h2, h3, h4, h5.mono (MemLe.refl I) fun v hv k hkv => hk k (by simp only [Ob.keys, List.mem_flatMap]; exact ⟨v, hv, hkv⟩)⟩
  | row e es => obtain ⟨v, xs, h1, h2⟩ := h'; exact ⟨v, xs, hr.trans h1, h2⟩
  | bld s => obtain ⟨b, base, h1, h2⟩ := h'; exact ⟨b, base, hr.trans h1, h2⟩
theorem ObLe.isByte {a b : Ob} (E : Env) (h : ObLe a b) : b.isByte E = a.isByte E := by cases h <;> rfl
theorem heapCall {X : Cx} {n d : Nat} {I : Mem} {μ : Locs} {st : St} {a : Act} {w : World} {o : Oper} {g : FuncId} {args : List GV} {as : Array Value} {ks : List Nat} {v : GV} {H : List (Nat × Ob)} (hE : EnvOk P X.E X.tB) (hr : RowsOk μ) (hs : Sim X n I μ st a w)
    (hrun : (execOp a.eval o).run P w = .ok (.enter g as) w) (hl : as.size = args.length) (ha : ∀ i, i < args.length → RepG I μ (args.getD i .any) (as.getD i undef))
    (hk1 : ks.length < 1000) (hk2 : ∀ r, r ∈ args.flatMap GV.keys → r ∈ ks) (hk3 : ∀ r, r ∈ ks → ∃ o, look st.h r = some o ∧ ∀ k, k ∈ o.keys → k ∈ ks)
    (hfn : HeapFn P X.E X.tB X.W0 g (args.map (GV.map (CV.ren (pos ks)))) (handed st.h ks ks) v H)
    (hd : distinct (H.map fun x => back d ks x.1) = true) (hv : ∀ r, r ∈ v.keys → r ∈ H.map fun x => x.1) (hH : ∀ x, x ∈ H → ∀ r, r ∈ x.2.keys → r ∈ H.map fun x => x.1) (hnew : ∀ x, x ∈ H → oldKey ks x.1 = true ∨ back d ks x.1 ∉ ks)
    (st1 : St) (hst1 : st1 = strikeAll ((H.filter fun x => !oldKey ks x.1).map (fun x => back d ks x.1) ++ ks.filter (rowAt st.h)) { st with h := dropAll ks st.h })
    (hok : okHeap X.E ((H.map fun x => (back d ks x.1, x.2.map (CV.ren (back d ks)))) ++ st1.h) = true ∨ plain X.E st.h ks H = true) :
    Upon P o a w fun x w' => ∃ J ν, NewI X I J ∧ (RowsOk ν ∧ Keep μ ν) ∧ Sim X n J ν { st1 with h := (H.map fun x => (back d ks x.1, x.2.map (CV.ren (back d ks)))) ++ st1.h } a w' ∧ RepG J ν (v.map (CV.ren (back d ks))) x := by
  -- what is handed
  have hmem : ∀ q p, look (handed st.h ks ks) q = some p → ∃ r o, r ∈ ks ∧ look st.h r = some o ∧ q = pos ks r ∧ p = o.map (CV.ren (pos ks)) := by
    intro q p hq
    obtain ⟨r, o, h1, h2, h3⟩ := handed_mem (look_mem _ _ _ hq)
    injection h3 with h3 h4
    exact ⟨r, o, h1, h2, h3, h4⟩
  have hbldmem : hasBld (handed st.h ks ks) = true → ∃ r s, r ∈ ks ∧ look st.h r = some (.bld s) := by
    intro h
    obtain ⟨x, hx, hb⟩ := List.any_eq_true.1 h
    obtain ⟨r, o, h1, h2, rfl⟩ := handed_mem hx
    rw [Ob.ren_isBld] at hb
    cases o with
    | bld s => exact ⟨r, s, h1, h2⟩
    | _ => cases hb
  -- the builder's base
  obtain ⟨bb, hb1, hb2, hb3⟩ : ∃ bb, (∀ r s b base, r ∈ ks → look st.h r = some (.bld s) → μ r = some (.bld b base) → bb ≤ base) ∧
      (hasBld (handed st.h ks ks) = true → ((X.hb = true ∧ X.bb ≤ bb) ∨ X.w1.heap.size ≤ bb)) ∧ (hasBld (handed st.h ks ks) = true → X.B ≤ bb) := by
    by_cases hex : ∃ r s, r ∈ ks ∧ look st.h r = some (.bld s)
    · obtain ⟨r, s, h1, h2⟩ := hex
      obtain ⟨b, base, h3, h4, h5, h6⟩ := hs.h.ok r _ h2
      refine ⟨base, ?_, fun _ => h5, fun _ => h4⟩
      intro r' s' b' base' h1' h2' h3'
      by_cases e : r' = r
      · subst e
        rw [h3] at h3'
        injection h3' with h3'
        injection h3' with _ h3'
        omega
      · have := (hs.h.alone r' r _ _ h2' h2 e rfl).1
        cases this
    · refine ⟨0, fun r s b base h1 h2 => absurd ⟨r, s, h1, h2⟩ hex, fun h => absurd (hbldmem h) (fun ⟨r, s, h⟩ => hex ⟨r, s, h⟩), fun h => absurd (hbldmem h) (fun ⟨r, s, h⟩ => hex ⟨r, s, h⟩)⟩
  let μ' := muIn ks μ
  let X' : Cx := { E := X.E, tB := X.tB, B := X.B, S := blocksOf μ' (handed st.h ks ks), hb := hasBld (handed st.h ks ks), bb := bb, w1 := w, W0 := X.W0 }
  have hS : ∀ b, X'.S b → ∃ r o l, r ∈ ks ∧ look st.h r = some o ∧ μ r = some l ∧ l.blk = some b := by
    rintro b ⟨q, p, l, h1, h2, h3⟩
    obtain ⟨r, o, h4, h5, rfl, rfl⟩ := hmem q p h1
    have h2' : muIn ks μ (pos ks r) = some l := h2
    rw [muIn_pos h4] at h2'
    exact ⟨r, o, l, h4, h5, h2', h3⟩
  have hSown : ∀ b, X'.S b → X.S b ∨ X.w1.heap.size ≤ b := by
    intro b hb
    obtain ⟨r, o, l, h1, h2, h3, h4⟩ := hS b hb
    exact hs.h.own r o l b h2 h3 h4
  have hSlow : ∀ b, X'.S b → X.W0.heap.size ≤ b := by
    intro b hb
    rcases hSown b hb with h | h
    · exact hs.cx.low b h
    · exact Nat.le_trans hs.cx.low1 h
  have hcx : CxOk X' := ⟨hSlow, Nat.le_trans hs.cx.lowB hs.bw, hs.cx.lowB⟩
  have hro' : RowsOk μ' := by
    intro q u c hq
    have hq' : muIn ks μ q = some (.row u c) := hq
    unfold muIn at hq'
    split at hq'
    · exact hr _ u c hq'
    · cases hq'
  have hheap' : HeapOk X' I μ' w (handed st.h ks ks) := by
    refine ⟨?_, ?_, ?_, ?_, ?_⟩
    · intro q p hq
      obtain ⟨r, o, h1, h2, rfl, rfl⟩ := hmem q p hq
      obtain ⟨o', h2', hcl⟩ := hk3 r h1
      rw [h2] at h2'
      injection h2' with h2'
      subst h2'
      refine (hs.h.ok r o h2).ren (X := X') (μ := μ') rfl rfl rfl (muIn_pos h1) (fun k hk => muIn_pos (hcl k hk)) ?_
      intro b base h3 h4
      left
      have hob : ∃ s, o = .bld s := by
        cases o with
        | bld s => exact ⟨s, rfl⟩
        | box cs => obtain ⟨b', _, _, k1, _⟩ := hs.h.ok r _ h2; rw [h3] at k1; injection k1 with k1; cases k1
        | row e es => obtain ⟨v', _, k1, _⟩ := hs.h.ok r _ h2; rw [h3] at k1; injection k1 with k1; cases k1
      obtain ⟨s, rfl⟩ := hob
      refine ⟨?_, hb1 r s b base h1 h2 h3⟩
      show hasBld (handed st.h ks ks) = true
      exact List.any_eq_true.2 ⟨_, look_mem _ _ _ hq, rfl⟩
    · intro q q' p p' l l' b hq hq' hne h3 h3' h4
      obtain ⟨r, o, h1, h2, rfl, rfl⟩ := hmem q p hq
      obtain ⟨r', o', h1', h2', rfl, rfl⟩ := hmem q' p' hq'
      have e1 : μ r = some l := (muIn_pos h1).symm.trans h3
      have e2 : μ r' = some l' := (muIn_pos h1').symm.trans h3'
      exact hs.h.apart r r' o o' l l' b h2 h2' (fun e => hne (by rw [e])) e1 e2 h4
    · intro q p l b hq h3 h4
      obtain ⟨r, o, h1, h2, rfl, rfl⟩ := hmem q p hq
      exact hs.h.imm r o l b h2 ((muIn_pos h1).symm.trans h3) h4
    · intro q p l b hq h3 h4
      exact .inl ⟨q, p, l, hq, h3, h4⟩
    · intro q q' p p' hq hq' hne hb
      obtain ⟨r, o, h1, h2, rfl, rfl⟩ := hmem q p hq
      obtain ⟨r', o', h1', h2', rfl, rfl⟩ := hmem q' p' hq'
      rw [Ob.map_isBld] at hb
      rw [Ob.map_isBld, Ob.map_isByte]
      exact hs.h.alone r r' o o' h2 h2' (fun e => hne (by rw [e])) hb
  have hargs : ∀ i, i < (args.map (GV.map (CV.ren (pos ks)))).length → RepG I μ' ((args.map (GV.map (CV.ren (pos ks)))).getD i .any) (as.getD i undef) := by
    intro i hi
    have hi' : i < args.length := by simpa using hi
    have e : (args.map (GV.map (CV.ren (pos ks)))).getD i .any = (args.getD i .any).map (CV.ren (pos ks)) := by
      simp [List.getD_eq_getElem?_getD, hi']
    rw [e]
    refine (ha i hi').ren fun r hr => muIn_pos (hk2 r ?_)
    rw [List.mem_flatMap]
    refine ⟨_, ?_, hr⟩
    simp [List.getD_eq_getElem?_getD, hi']
  intro next Q hn
  unfold Oper.wp
  rw [hrun, Oper.upon_enter]
  refine (hfn X' I μ' w as rfl rfl rfl rfl rfl rfl hcx hro' hs.im hs.bw hs.base hheap' (by simpa using hl) hargs).mono ?_
  rintro e w' ⟨x, J, ν, rfl, h1, hI, ⟨hro, hkeep⟩, him, hheap, hfr⟩
  generalize hkh : (H.map fun x => x.1) = kh at hv hH
  have hd' : distinct (kh.map (back d ks)) = true := by rw [← hkh, List.map_map]; exact hd
  have hmk : ∀ q p, look H q = some p → q ∈ kh := fun q p h => by rw [← hkh]; exact List.mem_map.2 ⟨(q, p), look_mem H q p h, rfl⟩
  generalize hlst : ((H.filter fun x => !oldKey ks x.1).map (fun x => back d ks x.1) ++ ks.filter (rowAt st.h)) = lst at hst1
  -- keys that stay what they were
  have hA : ∀ q, q ∈ kh → muOut (back d ks) kh μ ν (back d ks q) = ν q := fun q hq => muOut_of hd' hq
  have hD : ∀ q, q ∈ kh → oldKey ks q = true → rowAt st.h (back d ks q) = false → muOut (back d ks) kh μ ν (back d ks q) = μ (back d ks q) := by
    intro q hq hold hrow
    have hbk : back d ks q = ks.getD (q - 1000) 0 := by simp [back, hold]
    rw [hA q hq, hbk]
    rw [hbk] at hrow
    have hin : ks.getD (q - 1000) 0 ∈ ks := oldKey_mem hold
    obtain ⟨o1, ho1, _⟩ := hk3 _ hin
    obtain ⟨l, hl1, hl2, _⟩ := (hs.h.ok _ o1 ho1).loc
    have hnr : l.isRow = false := by
      rw [hl2]
      intro e es he
      subst he
      unfold rowAt at hrow
      rw [ho1] at hrow
      cases hrow
    obtain ⟨g1, g2⟩ := oldKey_iff.1 hold
    have : μ' q = some l := by
      show muIn ks μ q = some l
      unfold muIn
      rw [if_pos hold]
      exact hl1
    rw [hkeep q l g1 (by omega) this hnr]
    exact hl1.symm
  have hE' : ∀ k, k ∉ lst → muOut (back d ks) kh μ ν k = μ k := by
    intro k hk
    by_cases hm : k ∈ kh.map (back d ks)
    · obtain ⟨q, hq, rfl⟩ := List.mem_map.1 hm
      rw [← hkh] at hq
      obtain ⟨z, hz, hzq⟩ := List.mem_map.1 hq
      have hq' : q ∈ kh := by rw [← hkh]; exact hq
      cases hold : oldKey ks q
      · exfalso
        apply hk
        rw [← hlst, List.mem_append]
        left
        refine List.mem_map.2 ⟨z, ?_, by rw [hzq]⟩
        rw [List.mem_filter]
        exact ⟨hz, by rw [hzq, hold]; rfl⟩
      · refine hD q hq' hold ?_
        cases hrow : rowAt st.h (back d ks q)
        · rfl
        · exfalso
          apply hk
          rw [← hlst, List.mem_append]
          right
          rw [List.mem_filter]
          refine ⟨?_, hrow⟩
          simp only [back, hold, cond_true]
          exact oldKey_mem hold
    · exact muOut_ne hm
  -- the state's objects then
  have key : ∀ k o, look ((H.map fun x => (back d ks x.1, x.2.map (CV.ren (back d ks)))) ++ st1.h) k = some o →
      (∃ q p, look H q = some p ∧ back d ks q = k ∧ o = p.map (CV.ren (back d ks))) ∨ (k ∉ kh.map (back d ks) ∧ k ∉ ks ∧ ∃ o0, look st.h k = some o0 ∧ ObLe o0 o ∧ ∀ j, j ∈ o.keys → j ∉ lst) := by
    intro k o ho
    rw [look_append] at ho
    obtain ⟨i1, i2⟩ := look_ren (k := k) (g := Ob.map (CV.ren (back d ks))) hd
    cases hl : look (H.map fun x => (back d ks x.1, x.2.map (CV.ren (back d ks)))) k with
    | some o' =>
      rw [hl] at ho
      simp only [Option.some_or, Option.some.injEq] at ho
      subst ho
      obtain ⟨q, p, j1, j2, j3⟩ := i1 o' hl
      exact .inl ⟨q, p, j1, j2, j3⟩
    | none =>
      rw [hl] at ho
      simp only [Option.none_or] at ho
      rw [hst1] at ho
      obtain ⟨p, j1, j2, j3⟩ := strikeAll_h _ _ _ _ ho
      obtain ⟨j4, j5⟩ := look_dropAll _ _ _ _ j1
      refine .inr ⟨?_, j4, p, j5, j2, fun j hj => (j3 j hj).2⟩
      have := i2 hl
      rw [← hkh, List.map_map]
      exact this
  have hrest : ∀ k o0 l b, k ∉ ks → look st.h k = some o0 → μ k = some l → l.blk = some b → ¬ X'.S b := by
    intro k o0 l b hk ho hl hb hSb
    obtain ⟨r, o1, l1, m1, m2, m3, m4⟩ := hS b hSb
    exact hs.h.apart k r o0 o1 l l1 b ho m2 (fun e => hk (e ▸ m1)) hl m3 hb m4
  have hsz : w.heap.size ≤ w'.heap.size := hfr.size
  refine hn x w' ⟨J, muOut (back d ks) kh μ ν, ⟨hI.1, ?_⟩, ⟨?_, ?_⟩, ⟨hs.size, hs.defers, ?_, ⟨?_, ?_, ?_, ?_, ?_⟩, him, Nat.le_trans hs.bw hsz, ?_, hs.cx, ?_⟩, ?_⟩
  · intro b o u hu
    rcases hI.2 b o u hu with e | e | e
    · exact .inl e
    · exact .inr (hSown b e)
    · exact .inr (.inr (Nat.le_trans hs.fr.size e))
  · intro q u c hq
    unfold muOut at hq
    split at hq
    · exact hro _ u c hq
    · exact hr _ u c hq
  · intro q l g1 g2 hq hnr
    by_cases hm : q ∈ kh.map (back d ks)
    · obtain ⟨q', hq', e⟩ := List.mem_map.1 hm
      cases hold : oldKey ks q'
      · simp only [back, hold, cond_false] at e
        omega
      · have hin : q ∈ ks := by rw [← e]; simp only [back, hold, cond_true]; exact oldKey_mem hold
        obtain ⟨o1, ho1, _⟩ := hk3 q hin
        obtain ⟨l', hl1, hl2, _⟩ := (hs.h.ok q o1 ho1).loc
        rw [hq] at hl1
        injection hl1 with hl1
        subst hl1
        have hrow : rowAt st.h q = false := by
          have := hl2.1 hnr
          unfold rowAt
          rw [ho1]
          cases o1 with
          | row e es => exact absurd rfl (this e es)
          | _ => rfl
        rw [← e] at hrow ⊢
        rw [hD q' hq' hold hrow, e]
        exact hq
    · rw [muOut_ne hm]
      exact hq
  · intro i u hu
    have hu' : look st1.t i = some u := hu
    rw [hst1] at hu'
    obtain ⟨u0, j1, j2, j3⟩ := strikeAll_t _ _ _ _ hu'
    refine ((j2 _ _ _ (hs.t i u0 j1))).mono hI.1 fun k hk => hE' k (j3 k hk).2
  · intro k o ho
    rcases key k o ho with ⟨q, p, j1, rfl, rfl⟩ | ⟨j1, j2, o0, j3, j4, j5⟩
    · have hq := hmk q p j1
      refine (hheap.ok q p j1).ren (X := X) (X' := X') rfl rfl rfl (hA q hq) (fun k hk => hA k ?_) ?_
      · have := hH _ (look_mem H q p j1) k hk
        exact this
      · intro b base _ h
        rcases h with ⟨h2, h3⟩ | h3
        · have h3' : bb ≤ base := h3
          rcases hb2 h2 with ⟨h4, h5⟩ | h4
          · exact .inl ⟨h4, Nat.le_trans h5 h3'⟩
          · exact .inr (Nat.le_trans h4 h3')
        · exact .inr (Nat.le_trans hs.fr.size h3)
    · have h2 := (hs.h.ok k o0 j3).kept (J := J) hI.1 hfr rfl hE.neB (fun l b hl hb => hrest k o0 l b j2 j3 hl hb) ?_ ?_
      · exact h2.le' j4 (muOut_ne j1) (fun j hj => hE' j (j5 j hj))
      · intro hh
        obtain ⟨r, s, m1, m2⟩ := hbldmem hh
        exact hs.h.alone r k _ o0 m2 j3 (fun e => j2 (e ▸ m1)) rfl
      · intro g cur fz hbl hg hSg
        obtain ⟨r, o1, l1, m1, m2, m3, m4⟩ := hS g hSg
        obtain ⟨n1, n2⟩ := hs.h.alone k r o0 o1 j3 m2 (fun e => j2 (e ▸ m1)) hbl
        have hok1 := hs.h.ok r o1 m2
        cases o1 with
        | box cs =>
          obtain ⟨b, arr, T, k1, _, k3, k4, _⟩ := hok1
          rw [m3] at k1
          injection k1 with k1
          subst k1
          simp only [Loc.blk, Option.some.injEq] at m4
          subst m4
          rw [k3] at hg
          injection hg with hg
          injection hg with _ hg _
          exact k4 hg
        | row e es =>
          obtain ⟨u, xs, k1, k2, _⟩ := hok1
          rw [m3] at k1
          injection k1 with k1
          subst k1
          rcases k2.2 with ⟨z, _⟩ | ⟨g', cap, cur', z, _, zg, _⟩
          · subst z; simp [Loc.blk, Value.ownBlock] at m4
          · subst z
            simp only [Loc.blk, Value.ownBlock, Option.some.injEq] at m4
            subst m4
            rw [zg] at hg
            injection hg with hg
            injection hg with _ hg _
            simp [Ob.isByte, hg] at n2
        | bld s => cases n1
  · intro k k' o o' l l' b ho ho' hne hl hl' hb
    rcases key k o ho with ⟨q, p, j1, rfl, rfl⟩ | ⟨j1, j2, o0, j3, _, _⟩ <;> rcases key k' o' ho' with ⟨q', p', j1', rfl, rfl⟩ | ⟨j1', j2', o0', j3', _, _⟩
    · rw [hA q (hmk q p j1)] at hl
      rw [hA q' (hmk q' p' j1')] at hl'
      exact hheap.apart q q' p p' l l' b j1 j1' (fun e => hne (by rw [e])) hl hl' hb
    · rw [hA q (hmk q p j1)] at hl
      rw [muOut_ne j1'] at hl'
      intro hb'
      rcases hheap.own q p l b j1 hl hb with e | e
      · exact hrest k' o0' l' b j2' j3' hl' hb' e
      · have hl2 := (hs.h.ok k' o0' j3').loc
        obtain ⟨l2, n1, _, n3⟩ := hl2
        rw [hl'] at n1
        injection n1 with n1
        subst n1
        have := n3 b hb'
        have e' : w.heap.size ≤ b := e
        omega
    · rw [muOut_ne j1] at hl
      rw [hA q' (hmk q' p' j1')] at hl'
      intro hb'
      rcases hheap.own q' p' l' b j1' hl' hb' with e | e
      · exact hrest k o0 l b j2 j3 hl hb e
      · obtain ⟨l2, n1, _, n3⟩ := (hs.h.ok k o0 j3).loc
        rw [hl] at n1
        injection n1 with n1
        subst n1
        have := n3 b hb
        have e' : w.heap.size ≤ b := e
        omega
    · rw [muOut_ne j1] at hl
      rw [muOut_ne j1'] at hl'
      exact hs.h.apart k k' o0 o0' l l' b j3 j3' hne hl hl' hb
  · intro k o l b ho hl hb p
    rcases key k o ho with ⟨q, p', j1, rfl, rfl⟩ | ⟨j1, j2, o0, j3, _, _⟩
    · rw [hA q (hmk q p' j1)] at hl
      exact hheap.imm q p' l b j1 hl hb p
    · rw [muOut_ne j1] at hl
      cases hJ : J b p with
      | none => rfl
      | some u =>
        exfalso
        rcases hI.2 b p u hJ with e | e | e
        · rw [hs.h.imm k o0 l b j3 hl hb p] at e; cases e
        · exact hrest k o0 l b j2 j3 hl hb e
        · obtain ⟨l2, n1, _, n3⟩ := (hs.h.ok k o0 j3).loc
          rw [hl] at n1
          injection n1 with n1
          subst n1
          have := n3 b hb
          have e' : w.heap.size ≤ b := e
          omega
  · intro k o l b ho hl hb
    rcases key k o ho with ⟨q, p', j1, rfl, rfl⟩ | ⟨j1, j2, o0, j3, _, _⟩
    · rw [hA q (hmk q p' j1)] at hl
      rcases hheap.own q p' l b j1 hl hb with e | e
      · exact hSown b e
      · exact .inr (Nat.le_trans hs.fr.size e)
    · rw [muOut_ne j1] at hl
      exact hs.h.own k o0 l b j3 hl hb
  · rcases hok with hok | hok
    · exact okHeap_alone hok
    · have hpl : ∀ q p, look H q = some p → (p.isBld = false ∧ p.isByte X.E = false) ∨ (p.isBld = true ∧ ∃ o1, back d ks q ∈ ks ∧ look st.h (back d ks q) = some o1 ∧ o1.isBld = true) := by
        intro q p hp
        have := (List.all_eq_true.1 hok) (q, p) (look_mem H q p hp)
        simp only [Bool.or_eq_true, Bool.and_eq_true, Bool.not_eq_true'] at this
        rcases this with h | h
        · exact .inl h
        · simp only [sameBld, Bool.and_eq_true] at h
          obtain ⟨h1, h2, h3⟩ := h
          refine .inr ⟨h2, ?_⟩
          simp only [back, h1, cond_true]
          split at h3
          · rename_i o1 ho1
            exact ⟨o1, oldKey_mem h1, ho1, h3⟩
          · cases h3
      intro k k' o o' ho ho' hne hb
      rcases key k o ho with ⟨q, p, j1, rfl, rfl⟩ | ⟨j1, j2, o0, j3, j4, _⟩
      · rw [Ob.map_isBld] at hb
        rcases hpl q p j1 with ⟨e, _⟩ | ⟨_, o1, e1, e2, e3⟩
        · rw [e] at hb; cases hb
        · rcases key k' o' ho' with ⟨q', p', j1', rfl, rfl⟩ | ⟨j1', j2', o0', j3', j4', _⟩
          · rw [Ob.map_isBld, Ob.map_isByte]
            exact hheap.alone q q' p p' j1 j1' (fun e => hne (by rw [e])) hb
          · rw [j4'.isBld, j4'.isByte]
            exact hs.h.alone _ k' o1 o0' e2 j3' hne e3
      · rcases key k' o' ho' with ⟨q', p', j1', rfl, rfl⟩ | ⟨j1', j2', o0', j3', j4', _⟩
        · rw [Ob.map_isBld, Ob.map_isByte]
          rw [j4.isBld] at hb
          rcases hpl q' p' j1' with e | ⟨_, o1, e1, e2, e3⟩
          · exact e
          · have := (hs.h.alone k _ o0 o1 j3 e2 hne hb).1
            rw [e3] at this; cases this
        · rw [j4.isBld] at hb
          rw [j4'.isBld, j4'.isByte]
          exact hs.h.alone k k' o0 o0' j3 j3' hne hb
  · refine ⟨hfr.os.trans hs.fr.os, hfr.tape.trans hs.fr.tape, hfr.output.trans hs.fr.output, Nat.le_trans hs.fr.size hsz, ?_⟩
    intro b o hb hSb hby
    have h2 := hs.fr.keep b o hb hSb hby
    have hlt : b < X.w1.heap.size := (Array.getElem?_eq_some_iff.1 hb).1
    refine hfr.keep b o h2 (fun h => ?_) (fun hh => ?_)
    · rcases hSown b h with e | e
      · exact hSb e
      · omega
    · have hh' : hasBld (handed st.h ks ks) = true := hh
      rcases hb2 hh' with ⟨h4, h5⟩ | h4
      · rcases hby h4 with e | e
        · exact .inl (Nat.lt_of_lt_of_le e h5)
        · exact .inr e
      · exact .inl (Nat.lt_of_lt_of_le hlt h4)
  · refine hs.base.trans ⟨hfr.os, hfr.tape, hfr.output, hsz, fun k hk => ?_⟩
    have hkw : k < w.heap.size := Nat.lt_of_lt_of_le hk (Nat.le_trans hs.cx.lowB hs.bw)
    have e1 : w.heap[k]? = some w.heap[k] := by simp [hkw]
    rw [e1]
    refine hfr.keep k _ e1 (fun h => ?_) (fun hh => .inl ?_)
    · have := hSlow k h
      omega
    · have := hb3 hh
      have hkb := hs.cx.lowB
      show k < bb
      omega
  · exact h1.ren fun k hk => hA k (hv k hk)
end
end Go.Dip
end
/- An ideal semantics of the model's code, part 22: what an operation does, whichever it is. -/
section
set_option linter.unusedVariables false
set_option linter.unusedSimpArgs false
namespace Go.Dip
section
variable {R : Type} {r : R} {P : Program} {E : Env} {tB : TypeId} {W0 : World}
theorem wPures_inv : ∀ {l : List (TypeId × Operand)} {st : St} {acc : List PV} {K : List PV → St → Option R}, wPures E st l acc K = some r →
    ∃ vs st', K (acc.reverse ++ vs) st' = some r ∧ vs.length = l.length ∧ ∀ {X : Cx} {n : Nat} {I : Mem} {μ : Locs} {a : Act} {w : World}, X.E = E → Sim X n I μ st a w →
      ∃ J, NewI X I J ∧ Sim X n J μ st' a w ∧ ∀ (i : Nat) x, l[i]? = some x → RepP J (vs.getD i .any) (a.eval x.2)
  | [], st, acc, K, h => ⟨[], st, by simpa [wPures] using h, rfl, fun {X n I μ a w} hX hs => ⟨I, NewI.refl X I, hs, fun i x hi => by simp at hi⟩⟩
  | x :: l, st, acc, K, h => by
    simp only [wPures] at h
    obtain ⟨y, st1, h, hp⟩ := wPure_inv h
    obtain ⟨vs, st2, h1, h2, h3⟩ := wPures_inv h
    refine ⟨y :: vs, st2, by simpa using h1, by simp [h2], fun {X n I μ a w} hX hs => ?_⟩
    obtain ⟨J, k1, k2, k3⟩ := hp.does hX hs
    obtain ⟨L, k4, k5, k6⟩ := h3 hX k2
    refine ⟨L, k1.trans k4, k5, fun i z hz => ?_⟩
    cases i with
    | zero => simp at hz; subst hz; simpa using k3.mono k4.1
    | succ i => simpa using k6 i z (by simpa using hz)
theorem alloc_bld {o : Oper} {d : Nat} (hd : d < 1000) {st : St} {t : TypeId} {K : GV → St → Option R} (hE : EnvOk P E tB) (ho : o.op = .alloc t) (ht : E.ty t = .bld)
    (h : (wNew E d (.bld []) (st.strike d) fun st => K (.c (.ptr d 0)) st) = some r) : ∃ v st', K v st' = some r ∧ OpDoes P E tB W0 o st v st' := by
  obtain ⟨hok, h⟩ := wNew_inv h
  refine ⟨_, _, h, fun {X n I μ a w} hX hB hW hr hs => ?_⟩
  obtain ⟨htB, i, hi, hz⟩ := hE.bld t ht
  have hrun : (execOp a.eval o).run P w = .ok (.value (.pointer (some ⟨w.heap.size, 0, none⟩))) (w.alloc (.cells #[.pointer none, .slice none 0 0] t)) := by
    simp only [execOp, ho]
    exact run_value (by simp [Instr.alloc, run_zero hi hz, run_newVar', Value.cells])
  subst hX hB hW
  have hs1 := hs.strike d (ν := upd μ d (.bld w.heap.size w.heap.size)) fun k hk => upd_ne μ _ hk
  have hf := hs1.fresh (Nat.le_refl w.heap.size)
  have hs2 := hs1.grown (grownBy_alloc' w (.cells #[.pointer none, .slice none 0 0] t) none) (Aside.none ..)
  refine Upon.of_run hrun ⟨I, upd μ d (.bld w.heap.size w.heap.size), NewI.refl X I, ⟨hr.upd d _ fun v c e => (by cases e), Keep.upd μ _ (.inl hd)⟩, ⟨hs2.size, hs2.defers, hs2.t, ?_, hs2.im, hs2.bw, hs2.fr, hs2.cx, hs2.base⟩, .inr ⟨_, _, upd_same μ d _, rfl, rfl⟩⟩
  refine hs2.h.new (strike_none d st) (upd_same μ d _) ?_ ?_ hok
  · refine ⟨_, _, upd_same μ d _, hs.bw, .inr hs.fr.size, .inl ⟨Nat.le_refl _, .slice none 0 0, ?_, World.ownsRowF_nil _ _ _ _, by simp [Value.ownBlock]⟩⟩
    rw [← htB]
    exact heap_alloc_new w _
  · intro b hb
    simp only [Loc.blk, Option.some.injEq] at hb
    subst hb
    exact hf
theorem callHeap_inv {o : Oper} {d : Nat} {st : St} {f : Operand} {args : Array Operand} {ts : Array TypeId} {g : FuncId} {rs : List Nat} {F : List GV → List (Nat × Ob) → (GV → List (Nat × Ob) → Option R) → Option R} {K : GV → St → Option R} (hE : EnvOk P E tB)
    (ho : o.op = .call { callee := .value f, args := args, argTypes := ts }) (hf : st.ev f = .c (.fn g rs)) (hen : Enters P g) (hsz : ts.size = args.size)
    (hF : ∀ args H K r, F args H K = some r → ∃ v H', K v H' = some r ∧ HeapFn P E tB W0 g args H v H') (h : callHeap E d st (wArgs E st (ts.toList.zip args.toList) ++ ptrs rs) F K = some r) :
    ∃ v st', K v st' = some r ∧ OpDoes P E tB W0 o st v st' := by
  unfold callHeap at h
  simp only at h
  generalize hks : reach st.h 100 ((wArgs E st (ts.toList.zip args.toList) ++ ptrs rs).flatMap GV.keys) [] = ks at h
  cases hc : Nat.blt ks.length 1000 && (keysIn ks ((wArgs E st (ts.toList.zip args.toList) ++ ptrs rs).flatMap GV.keys) && ks.all (hasOb st.h ks))
  · rw [hc] at h; exact absurd h (by simp)
  · simp only [hc, cond_true] at h
    simp only [Bool.and_eq_true, Nat.blt_eq] at hc
    obtain ⟨c1, c2, c3⟩ := hc
    obtain ⟨v, H, h, hfn⟩ := hF _ _ _ _ h
    cases hc2 : distinct (H.map fun x => back d ks x.1) && (keysIn (H.map fun x => x.1) v.keys && (H.all (fun x => keysIn (H.map fun x => x.1) x.2.keys) && H.all fun x => oldKey ks x.1 || !isIn ks (back d ks x.1)))
    · rw [hc2] at h; exact absurd h (by simp)
    · simp only [hc2, cond_true] at h
      simp only [Bool.and_eq_true] at hc2
      obtain ⟨d1, d2, d3, d4⟩ := hc2
      generalize hst1 : strikeAll ((H.filter fun x => !oldKey ks x.1).map (fun x => back d ks x.1) ++ ks.filter (rowAt st.h)) { st with h := dropAll ks st.h } = st1 at h
      cases hok : okHeap E ((H.map fun x => (back d ks x.1, x.2.map (CV.ren (back d ks)))) ++ st1.h)
      · rw [hok] at h; exact absurd h (by simp)
      · simp only [hok, cond_true] at h
        refine ⟨_, _, h, fun {X n I μ a w} hX hB hW hr hs => ?_⟩
        have hfv := hs.ev f
        rw [hf] at hfv
        obtain ⟨cap, e1, e2, e3⟩ := hfv
        subst hX hB hW
        have hla : (wArgs X.E st (ts.toList.zip args.toList)).length = args.size := by rw [wArgs_length]; simp [hsz]
        refine heapCall hE hr hs (run_call ho e1 hen) ?_ ?_ c1 (keysIn_iff.1 c2) ?_ hfn d1 (keysIn_iff.1 d2) ?_ ?_ st1 hst1.symm (.inl hok)
        · simp only [Array.size_append, Array.size_map, List.length_append, hla, ptrs, List.length_map, e2]
        · intro i hi
          simp only [List.length_append, hla, ptrs, List.length_map] at hi
          by_cases hlt : i < args.size
          · have := hs.args ts args hsz i hlt
            have g1 : (wArgs X.E st (ts.toList.zip args.toList) ++ ptrs rs).getD i .any = (wArgs X.E st (ts.toList.zip args.toList)).getD i .any := by
              simp only [List.getD_eq_getElem?_getD, List.getElem?_append_left (show i < (wArgs X.E st (ts.toList.zip args.toList)).length by omega)]
            have g2 : (args.map a.eval ++ cap).getD i undef = (args.map a.eval).getD i undef := by
              rw [agetD, agetD, Array.toList_append]
              simp only [List.getD_eq_getElem?_getD]
              rw [List.getElem?_append_left (by simpa using hlt)]
            rw [g1, g2]
            exact this
          · have hj : i - args.size < rs.length := by omega
            have g1 : (wArgs X.E st (ts.toList.zip args.toList) ++ ptrs rs).getD i .any = .c (.ptr rs[i - args.size] 0) := by
              simp only [List.getD_eq_getElem?_getD]
              rw [List.getElem?_append_right (by omega), hla]
              simp [ptrs, hj]
            have g2 : (args.map a.eval ++ cap).getD i undef = cap.getD (i - args.size) undef := by
              rw [agetD, agetD, Array.toList_append]
              simp only [List.getD_eq_getElem?_getD]
              rw [List.getElem?_append_right (by simp; omega)]
              simp
            rw [g1, g2]
            exact e3 (i - args.size) _ (by simp [hj])
        · intro k hk
          have := (List.all_eq_true.1 c3) k hk
          unfold hasOb at this
          split at this
          · rename_i ob hob
            exact ⟨ob, hob, keysIn_iff.1 this⟩
          · cases this
        · intro x hx
          exact keysIn_iff.1 ((List.all_eq_true.1 d3) x hx)
        · intro x hx
          have := (List.all_eq_true.1 d4) x hx
          simp only [Bool.or_eq_true, Bool.not_eq_true'] at this
          rcases this with e | e
          · exact .inl e
          · exact .inr fun hm => by rw [isIn_iff.2 hm] at e; cases e
theorem Upon.of_skip {o : Oper} {a : Act} {w w' : World} {Post : Value → World → Prop} (h : (execOp a.eval o).run P w = .ok .skip w') (hp : Post undef w') : Upon P o a w Post := by
  intro next Q hn
  unfold Oper.wp
  rw [h, Oper.upon_skip]
  exact hn _ w' hp
theorem evOp_inv (hE : EnvOk P E tB) {ρ : FuncId → Option (Callee R)} (hρ : RhoOk P E tB W0 ρ) {o : Oper} (hd : ∀ d, o.dst = some d → d < 1000) {st : St} {K : GV → St → Option R} (h : evOp E ρ o st K = some r) :
    ∃ v st', K v st' = some r ∧ OpDoes P E tB W0 o st v st' := by
  have hd0 : o.dst.getD 0 < 1000 := by
    cases hod : o.dst with
    | none => simp
    | some d => exact hd d hod
  have calm : evCalm E ρ o st (fun v => K v st) = some r → ∃ v st', K v st' = some r ∧ OpDoes P E tB W0 o st v st' := by
    intro h
    obtain ⟨v, h1, h2⟩ := evCalm_inv hE hρ h
    exact ⟨v, st, h1, h2.op⟩
  unfold evOp at h
  simp only at h
  split at h
  · rename_i x ho
    split at h
    · rename_i c hx
      split at h
      · rename_i e ht
        exact assign_inv hE hd0 ho hx ht h
      · cases h
    · refine ⟨_, st, h, ValDoes.op (run := fun a => pure (a.eval x)) (fun {X n I μ a w} hX hr hs => ⟨_, Sem.run_pure .., hX ▸ hs.evT o.type x⟩) fun a w y hy => ?_⟩
      simp only [Sem.run_pure, Result.ok.injEq, and_true] at hy
      simp only [execOp, ho, Sem.run_pure, hy]
  · rename_i t ho
    split at h
    · rename_i ht
      exact alloc_bld hd0 hE ho ht h
    · exact alloc_inv hE hd0 ho h
  · rename_i t x ho
    exact box_inv hE hd0 ho h
  · rename_i t len parts ho
    split at h
    · rename_i e ht
      exact buildSlice_inv hE hd0 ho ht h
    · cases h
  · rename_i t ad x ho
    obtain ⟨st', h1, h2⟩ := evStore_inv hE h
    refine ⟨_, st', h1, fun {X n I μ a w} hX hB hW hr hs => ?_⟩
    obtain ⟨w', J, k1, k2, k3⟩ := h2 hX hr hs (hs.ev ad)
    refine Upon.of_skip (w' := w') ?_ ⟨J, μ, k2, ⟨hr, Keep.refl μ⟩, k3, RepG.any _ _ _⟩
    simp only [execOp, ho, Sem.run_bind, k1, Result.andThen_ok, Sem.run_pure]
  · rename_i s t x ho
    by_cases ht : isSliceT (E.ty t) = true
    · unfold evConv at h
      split at h
      · rename_i hk; rw [hk] at ht; cases ht
      · rename_i hk; rw [hk] at ht; cases ht
      · rename_i hk; rw [hk] at ht; cases ht
      · rename_i e hs0 hk
        split at h
        · rename_i he
          exact runes_inv hE hd0 ho hs0 hk he h
        · cases h
      · rename_i hk; rw [hk] at ht; cases ht
      · cases h
    · obtain ⟨v, h1, h2⟩ := evConv_inv hE (by simpa using ht) h
      refine ⟨v, st, h1, ValDoes.op h2 fun a w y hy => ?_⟩
      simp only [execOp, ho]
      exact run_value hy
  · rename_i args ts ho
    exact append_inv hE hd0 ho h
  · rename_i f args ts ho
    rw [nbeq] at h
    by_cases hsz : ts.size = args.size
    · simp only [hsz, decide_true, cond_true] at h
      split at h
      · rename_i g rs hf
        split at h
        · rename_i F hg
          obtain ⟨hen, hp⟩ := hρ g _ hg
          split at h
          · obtain ⟨vs, st', h, hlen, hvs⟩ := wPures_inv h
            simp only [List.reverse_nil, List.nil_append] at h
            obtain ⟨v, h1, hfn⟩ := hp vs _ r h
            refine ⟨v, st', h1, fun {X n I μ a w} hX hB hW hr hs => ?_⟩
            have hfv := hs.ev f
            rw [hf] at hfv
            obtain ⟨cap, e1, e2, _⟩ := hfv
            have hcap : cap = #[] := Array.eq_empty_of_size_eq_zero e2
            subst hcap
            have hrun := run_call (w := w) ho e1 hen
            rw [Array.append_empty] at hrun
            obtain ⟨J, k1, k2, k3⟩ := hvs hX hs
            have hl2 : vs.length = args.size := by rw [hlen]; simp [hsz]
            have hup := upon_call hX hW hr hfn k2 hrun (by simpa using hl2.symm) (fun i hi => by
              have hi' : i < args.size := by omega
              have e : (ts.toList.zip args.toList)[i]? = some (ts[i], args[i]) := by
                rw [List.getElem?_zip_eq_some]
                exact ⟨by simp, by simp [hi']⟩
              have := k3 i _ e
              have e' : (args.map a.eval).getD i undef = a.eval args[i] := by simp [Array.getD, hi']
              rw [e']
              exact this)
            refine hup.mono ?_
            rintro x w' ⟨L, ν, m1, m2, m3, m4⟩
            exact ⟨L, ν, k1.trans m1, m2, m3, m4⟩
          · cases h
        · rename_i F hg
          obtain ⟨hen, hp⟩ := hρ g _ hg
          exact callHeap_inv hE ho hf hen hsz hp h
        · cases h
      · cases h
    · simp [hsz] at h
  · exact calm h
end
end Go.Dip
end
/- An ideal semantics of the model's code, part 23: operations in their order. -/
section
set_option linter.unusedVariables false
set_option linter.unusedSimpArgs false
namespace Go.Dip
section
variable {R : Type} {r : R} {P : Program} {E : Env} {tB : TypeId} {W0 : World}
def Then (E : Env) (tB : TypeId) (W0 : World) (X : Cx) (n : Nat) (I : Mem) (μ : Locs) (st : St) (F : Act → World → Prop) : Prop :=
  ∀ (J : Mem) (ν : Locs) (a : Act) (w : World), NewI X I J → RowsOk ν → Keep μ ν → Sim X n J ν st a w → F a w
theorem Sim.put {X : Cx} {n : Nat} {I : Mem} {μ : Locs} {st : St} {a : Act} {w : World} (h : Sim X n I μ st a w) {dst : Option Nat} {v : GV} {x : Value} (hv : RepG I μ v x) (hd : okDst n dst = true) : Sim X n I μ (st.put dst v) (a.put dst x) w := by
  cases dst with
  | none => exact h
  | some d =>
    simp only [okDst, Bool.and_eq_true, Nat.blt_eq] at hd
    refine ⟨by simp [Act.put, h.size], by simp [Act.put, h.defers], ?_, h.h, h.im, h.bw, h.fr, h.cx, h.base⟩
    intro i u hu
    simp only [St.put, look_cons] at hu
    by_cases e : i = d
    · rw [if_pos e] at hu
      injection hu with hu
      subst hu e
      have hlt : i < a.tmps.size := by rw [h.size]; exact hd.1
      have : (a.put (some i) x).tmps.getD i undef = x := by simp [Act.put, Array.getD, hlt]
      rw [this]
      exact hv
    · rw [if_neg e] at hu
      have : (a.put (some d) x).tmps.getD i undef = a.tmps.getD i undef := by
        simp only [Act.put]
        rw [agetD, agetD, Array.toList_setIfInBounds]
        simp only [List.getD_eq_getElem?_getD, List.getElem?_set, show ¬ d = i from fun e' => e e'.symm, if_false]
      rw [this]
      exact h.t i u hu
theorem okDst_lt {n : Nat} {dst : Option Nat} (h : okDst n dst = true) : ∀ d, dst = some d → d < 1000 := by
  rintro d rfl
  simp only [okDst, Bool.and_eq_true, Nat.blt_eq] at h
  exact h.2
theorem splitB_inv {st : St} {x : Operand} {K : Bool → St → Option R} (h : splitB st x K = some r) : ∃ b st', K b st' = some r ∧ st.ev x = .pv (.bool b) ∧ (st' = st ∨ ∃ t, x = .tmp t ∧ st' = st.put (some t) (.pv (.bool b))) := by
  unfold splitB at h
  have h0 := wBool_inv h
  clear h
  obtain ⟨b, hb, h⟩ := h0
  split at h
  · rename_i t
    cases b
    · exact ⟨false, _, h, hb, .inr ⟨t, rfl, rfl⟩⟩
    · exact ⟨true, _, h, hb, .inr ⟨t, rfl, rfl⟩⟩
  · cases b
    · exact ⟨false, _, h, hb, .inl rfl⟩
    · exact ⟨true, _, h, hb, .inl rfl⟩
theorem Sim.split {X : Cx} {n : Nat} {I : Mem} {μ : Locs} {st st' : St} {a : Act} {w : World} {x : Operand} {b : Bool} (h : Sim X n I μ st a w) (hb : st.ev x = .pv (.bool b)) (hst : st' = st ∨ ∃ t, x = .tmp t ∧ st' = st.put (some t) (.pv (.bool b))) :
    Sim X n I μ st' a w ∧ a.eval x = .bool b := by
  have hv := rep_bool (hb ▸ h.ev x)
  refine ⟨?_, hv⟩
  rcases hst with rfl | ⟨t, rfl, rfl⟩
  · exact h
  · refine ⟨h.size, h.defers, ?_, h.h, h.im, h.bw, h.fr, h.cx, h.base⟩
    intro i u hu
    simp only [St.put, look_cons] at hu
    by_cases e : i = t
    · rw [if_pos e] at hu
      injection hu with hu
      subst hu e
      have : a.tmps.getD i undef = .bool b := hv
      rw [this]
      exact RepP.bool b
    · rw [if_neg e] at hu
      exact h.t i u hu
theorem yielded_eq {all : List Oper} {ops : Array Oper} (ha : all = ops.toList) {g : Nat} {t : Nat} (ht : dstOf all g = some t) {a : Act} {b : Bool} (hv : a.eval (.tmp t) = .bool b) : yielded ops a.tmps g = some b := by
  subst ha
  unfold dstOf at ht
  split at ht
  · rename_i o ho
    have ho' : ops[g]? = some o := by simpa using ho
    have hv' : a.tmps.getD t undef = .bool b := hv
    unfold yielded
    rw [ho']
    simp only [Option.bind_some, ht]
    have hlt : t < a.tmps.size := by
      rcases Nat.lt_or_ge t a.tmps.size with h | h
      · exact h
      · simp [Array.getD, Nat.not_lt.2 h, undef] at hv'
    have e : a.tmps[t]? = some (.bool b) := by
      rw [← hv']
      simp [Array.getD, hlt]
    rw [e]
  · cases ht
theorem isUndef_inv {v : GV} (h : isUndef v = true) : v = .pv .gone := by
  unfold isUndef at h
  split at h
  · rfl
  · cases h
theorem yielded_gone {all : List Oper} {ops : Array Oper} (ha : all = ops.toList) {g : Nat} {t : Nat} (ht : dstOf all g = some t) {a : Act} (hv : a.eval (.tmp t) = undef) : yielded ops a.tmps g = none := by
  subst ha
  unfold dstOf at ht
  split at ht
  · rename_i o ho
    have ho' : ops[g]? = some o := by simpa using ho
    have hv' : a.tmps.getD t undef = undef := hv
    unfold yielded
    rw [ho']
    simp only [Option.bind_some, ht]
    rcases Nat.lt_or_ge t a.tmps.size with hlt | hge
    · have e : a.tmps[t]? = some undef := by
        rw [← hv']
        simp [Array.getD, hlt]
      rw [e]
      rfl
    · have e : a.tmps[t]? = none := by simp [hge]
      rw [e]
  · cases ht
theorem rep_gone {I : Mem} {μ : Locs} {x : Value} (h : RepG I μ (.pv .gone) x) : x = undef := by
  have h' : RepP I .gone x := h
  cases h'; rfl
theorem Upon.wpOp {ops : Array Oper} {i : Nat} {o : Oper} {a : Act} {w : World} {Post : Value → World → Prop} {K : Act → World → Prop} {Q : Exit → Act → World → Prop} (ho : ops[i]? = some o) (hw : Region.wanted o (yielded ops a.tmps) = true)
    (h : Upon P o a w Post) (hk : ∀ v w', Post v w' → K (a.put o.dst v) w') : wpOp P ops Q i K a w := by
  unfold Go.wpOp
  simp only [ho, hw, if_true]
  exact .inl (h K Q hk)
theorem wpOp_skip {ops : Array Oper} {i : Nat} {o : Oper} {a : Act} {w : World} {K : Act → World → Prop} {Q : Exit → Act → World → Prop} (ho : ops[i]? = some o) (hw : Region.wanted o (yielded ops a.tmps) = false)
    (hk : K (a.put o.dst undef) w) : wpOp P ops Q i K a w := by
  unfold Go.wpOp
  simp only [ho, hw]
  exact hk
theorem evOps_inv (hE : EnvOk P E tB) {ρ : FuncId → Option (Callee R)} (hρ : RhoOk P E tB W0 ρ) {n : Nat} {ops : Array Oper} : ∀ {l : List Oper} {k : Nat} {st : St} {K : St → Option R}, l = ops.toList.drop k → evOps E n ρ ops.toList l st K = some r →
    ∃ st', K st' = some r ∧ ∀ {X : Cx} {I : Mem} {μ : Locs} {a : Act} {w : World} {Q : Exit → Act → World → Prop}, X.E = E → X.tB = tB → X.W0 = W0 → RowsOk μ → Sim X n I μ st a w →
      Then E tB W0 X n I μ st' (Q .normal) → wpOps P ops Q (List.range' k (ops.size - k)) a w
  | [], k, st, K, hl, h => by
    refine ⟨st, h, fun {X I μ a w Q} hX hB hW hr hs hQ => ?_⟩
    have hk : ops.size - k = 0 := by
      have := congrArg List.length hl
      simp at this
      omega
    rw [hk]
    exact hQ I μ a w (NewI.refl X I) hr (Keep.refl μ) hs
  | o :: l, k, st, K, hl, h => by
    have hkl : k < ops.size := by
      rcases Nat.lt_or_ge k ops.size with h' | h'
      · exact h'
      · rw [List.drop_eq_nil_of_le (by simpa using h')] at hl; cases hl
    have hdrop : ops.toList.drop k = ops.toList[k] :: ops.toList.drop (k + 1) := by rw [List.drop_eq_getElem_cons (by simpa using hkl)]
    rw [hdrop] at hl
    injection hl with ho hl
    have ho' : ops[k]? = some o := by rw [ho]; simp [hkl]
    have hrange : List.range' k (ops.size - k) = k :: List.range' (k + 1) (ops.size - (k + 1)) := by
      have : ops.size - k = (ops.size - (k + 1)) + 1 := by omega
      rw [this, List.range'_succ]
    simp only [evOps] at h
    cases hdst : okDst n o.dst
    · simp [hdst] at h
    · simp only [hdst, cond_true] at h
      -- what a wanted operation does
      have runs : ∀ {st0 : St}, (evOp E ρ o st0 fun v st => evOps E n ρ ops.toList l (st.put o.dst v) K) = some r → ∃ st', K st' = some r ∧ ∀ {X : Cx} {I : Mem} {μ : Locs} {a : Act} {w : World} {Q : Exit → Act → World → Prop}, X.E = E → X.tB = tB → X.W0 = W0 → RowsOk μ → Sim X n I μ st0 a w →
          Region.wanted o (yielded ops a.tmps) = true → Then E tB W0 X n I μ st' (Q .normal) → wpOps P ops Q (List.range' k (ops.size - k)) a w := by
        intro st0 h
        obtain ⟨v, st1, h, hd⟩ := evOp_inv hE hρ (okDst_lt hdst) h
        obtain ⟨st2, h, hrest⟩ := evOps_inv hE hρ hl h
        refine ⟨st2, h, fun {X I μ a w Q} hX hB hW hr hs hwant hQ => ?_⟩
        rw [hrange, wpOps_cons]
        refine (hd hX hB hW hr hs).wpOp ho' hwant ?_
        rintro x w' ⟨J, ν, k1, ⟨k2, k2'⟩, k3, k4⟩
        exact hrest hX hB hW k2 (k3.put k4 hdst) fun L κ a' w'' m1 m2 m3 m4 => hQ L κ a' w'' (k1.trans m1) m2 (k2'.trans m3) m4
      split at h
      · rename_i hg
        obtain ⟨st', h1, h2⟩ := runs h
        exact ⟨st', h1, fun hX hB hW hr hs hQ => h2 hX hB hW hr hs (by simp [Region.wanted, hg]) hQ⟩
      · rename_i g hg
        split at h
        · rename_i t ht
          split at h
          · rename_i hu
            have hgone := isUndef_inv hu
            obtain ⟨st2, h1, hrest⟩ := evOps_inv hE hρ hl h
            refine ⟨st2, h1, fun {X I μ a w Q} hX hB hW hr hs hQ => ?_⟩
            have hev : a.eval (.tmp t) = undef := by
              have := hs.get t
              rw [hgone] at this
              exact rep_gone this
            rw [hrange, wpOps_cons]
            refine wpOp_skip ho' ?_ (hrest hX hB hW hr (hs.put RepP.gone hdst) hQ)
            simp only [Region.wanted, hg, yielded_gone rfl ht hev]
            simp
          obtain ⟨b, st1, h, hb, hst⟩ := splitB_inv h
          split at h
          · rename_i hbg
            obtain ⟨st', h1, h2⟩ := runs h
            refine ⟨st', h1, fun {X I μ a w Q} hX hB hW hr hs hQ => ?_⟩
            obtain ⟨hs1, hv⟩ := hs.split hb hst
            refine h2 hX hB hW hr hs1 ?_ hQ
            simp only [Region.wanted, hg, yielded_eq rfl ht hv]
            have : b = g.2 := by simpa using hbg
            simp [this]
          · rename_i hbg
            obtain ⟨st2, h1, hrest⟩ := evOps_inv hE hρ hl h
            refine ⟨st2, h1, fun {X I μ a w Q} hX hB hW hr hs hQ => ?_⟩
            obtain ⟨hs1, hv⟩ := hs.split hb hst
            rw [hrange, wpOps_cons]
            refine wpOp_skip ho' ?_ (hrest hX hB hW hr (hs1.put RepP.gone hdst) hQ)
            simp only [Region.wanted, hg, yielded_eq rfl ht hv]
            have : ¬ b = g.2 := by simpa using hbg
            simp [this]
        · cases h
end
end Go.Dip
end
/- An ideal semantics of the model's code, part 24: states and what operations change in them, in any order. -/
section
set_option linter.unusedVariables false
set_option linter.unusedSimpArgs false
namespace Go.Dip
def CV.strikes (zs : List Nat) (v : CV) : CV := zs.foldl (fun v r => v.strike r) v
def GV.strikes (zs : List Nat) (v : GV) : GV := zs.foldl (fun v r => v.map (CV.strike r)) v
def Ob.strikes (zs : List Nat) (v : Ob) : Ob := zs.foldl (fun v r => v.map (CV.strike r)) v
theorem CV.strike_comm (r q : Nat) (v : CV) : (v.strike r).strike q = (v.strike q).strike r := by
  cases v with
  | orow a => simp only [CV.strike]; cases h1 : Nat.beq a r <;> cases h2 : Nat.beq a q <;> simp [CV.strike, h1, h2]
  | osub a b c => simp only [CV.strike]; cases h1 : Nat.beq a r <;> cases h2 : Nat.beq a q <;> simp [CV.strike, h1, h2]
  | ptr a o => simp only [CV.strike]; cases h1 : Nat.beq a r <;> cases h2 : Nat.beq a q <;> simp [CV.strike, h1, h2]
  | ptrE a i o => simp only [CV.strike]; cases h1 : Nat.beq a r <;> cases h2 : Nat.beq a q <;> simp [CV.strike, h1, h2]
  | fn f rs => simp only [CV.strike]; cases h1 : rs.any (Nat.beq r ·) <;> cases h2 : rs.any (Nat.beq q ·) <;> simp [CV.strike, h1, h2]
  | _ => rfl
theorem GV.strike_comm (r q : Nat) (v : GV) : (v.map (CV.strike r)).map (CV.strike q) = (v.map (CV.strike q)).map (CV.strike r) := by
  cases v <;> simp [GV.map, CV.strike_comm r q]
theorem Ob.strike_comm (r q : Nat) (v : Ob) : (v.map (CV.strike r)).map (CV.strike q) = (v.map (CV.strike q)).map (CV.strike r) := by
  cases v <;> simp [Ob.map, CV.strike_comm r q]
theorem foldl_comm1 {α : Type} (f : Nat → α → α) (hf : ∀ r q x, f q (f r x) = f r (f q x)) : ∀ (zs : List Nat) (r : Nat) (x : α), zs.foldl (fun x r => f r x) (f r x) = f r (zs.foldl (fun x r => f r x) x)
  | [], r, x => rfl
  | z :: zs, r, x => by
    simp only [List.foldl_cons]
    rw [hf r z x, foldl_comm1 f hf zs r (f z x)]
theorem foldl_comm {α : Type} (f : Nat → α → α) (hf : ∀ r q x, f q (f r x) = f r (f q x)) (ys : List Nat) : ∀ (zs : List Nat) (x : α), zs.foldl (fun x r => f r x) (ys.foldl (fun x r => f r x) x) = ys.foldl (fun x r => f r x) (zs.foldl (fun x r => f r x) x)
  | [], x => rfl
  | z :: zs, x => by
    simp only [List.foldl_cons]
    rw [← foldl_comm1 f hf ys z x, foldl_comm f hf ys zs (f z x)]
theorem GV.strikes_comm (ys zs : List Nat) (v : GV) : (v.strikes ys).strikes zs = (v.strikes zs).strikes ys :=
  foldl_comm (fun r (v : GV) => v.map (CV.strike r)) (fun r q x => GV.strike_comm r q x) ys zs v
theorem Ob.strikes_comm (ys zs : List Nat) (v : Ob) : (v.strikes ys).strikes zs = (v.strikes zs).strikes ys :=
  foldl_comm (fun r (v : Ob) => v.map (CV.strike r)) (fun r q x => Ob.strike_comm r q x) ys zs v
theorem GV.strikes_append (ys zs : List Nat) (v : GV) : v.strikes (ys ++ zs) = (v.strikes ys).strikes zs := by simp [GV.strikes]
theorem Ob.strikes_append (ys zs : List Nat) (v : Ob) : v.strikes (ys ++ zs) = (v.strikes ys).strikes zs := by simp [Ob.strikes]
theorem CV.strike_id {r : Nat} {v : CV} (h : r ∉ v.keys) : v.strike r = v := by
  cases v with
  | orow q => simp [CV.keys] at h; simp [CV.strike, nbeq, show ¬ q = r from fun e => h e.symm]
  | osub q a b => simp [CV.keys] at h; simp [CV.strike, nbeq, show ¬ q = r from fun e => h e.symm]
  | ptr q o => simp [CV.keys] at h; simp [CV.strike, nbeq, show ¬ q = r from fun e => h e.symm]
  | ptrE q i o => simp [CV.keys] at h; simp [CV.strike, nbeq, show ¬ q = r from fun e => h e.symm]
  | fn f rs =>
    simp only [CV.keys] at h
    have : rs.any (Nat.beq r ·) = false := by
      rw [List.any_eq_false]
      intro x hx
      rw [nbeq, decide_eq_true_eq]
      exact fun e => h (e ▸ hx)
    simp [CV.strike, this]
  | _ => rfl
theorem map_strike_id {r : Nat} {cs : List CV} (h : r ∉ cs.flatMap CV.keys) : cs.map (CV.strike r) = cs := by
  rw [List.mem_flatMap] at h
  conv => rhs; rw [← List.map_id cs]
  apply List.map_congr_left
  intro v hv
  exact CV.strike_id fun hr => h ⟨v, hv, hr⟩
theorem GV.strike_id {r : Nat} {v : GV} (h : r ∉ v.keys) : v.map (CV.strike r) = v := by
  cases v with
  | c v => simp only [GV.map, CV.strike_id h]
  | agg cs => simp only [GV.map, map_strike_id h]
  | tup cs => simp only [GV.map, map_strike_id h]
theorem Ob.strike_id {r : Nat} {o : Ob} (h : r ∉ o.keys) : o.map (CV.strike r) = o := by
  cases o with
  | box cs => simp only [Ob.map, map_strike_id h]
  | _ => rfl
theorem GV.strikes_id : ∀ {zs : List Nat} {v : GV}, (∀ z, z ∈ zs → z ∉ v.keys) → v.strikes zs = v
  | [], v, _ => rfl
  | z :: zs, v, h => by
    simp only [GV.strikes, List.foldl_cons]
    rw [GV.strike_id (h z (by simp))]
    exact GV.strikes_id fun y hy => h y (by simp [hy])
theorem Ob.strikes_id : ∀ {zs : List Nat} {v : Ob}, (∀ z, z ∈ zs → z ∉ v.keys) → v.strikes zs = v
  | [], v, _ => rfl
  | z :: zs, v, h => by
    simp only [Ob.strikes, List.foldl_cons]
    rw [Ob.strike_id (h z (by simp))]
    exact Ob.strikes_id fun y hy => h y (by simp [hy])
theorem RepG.strikes {I : Mem} {μ : Locs} {x : Value} : ∀ (zs : List Nat) {v : GV}, RepG I μ v x → RepG I μ (v.strikes zs) x
  | [], v, h => h
  | z :: zs, v, h => RepG.strikes zs (v := v.map (CV.strike z)) (h.strike z)
theorem ObLe.strikes : ∀ (zs : List Nat) (o : Ob), ObLe o (o.strikes zs)
  | [], o => .refl o
  | z :: zs, o => (ObLe.strike z o).trans (ObLe.strikes zs _)
/-! Looking into a changed state. -/
theorem look_strikeAll_t : ∀ (zs : List Nat) (st : St) (i : Nat), look (strikeAll zs st).t i = (look st.t i).map (GV.strikes zs)
  | [], st, i => by simp [strikeAll, GV.strikes]; cases look st.t i <;> rfl
  | z :: zs, st, i => by
    simp only [strikeAll, List.foldl_cons]
    have := look_strikeAll_t zs (st.strike z) i
    simp only [strikeAll] at this
    rw [this, look_strike_t]
    cases look st.t i <;> rfl
theorem look_strikeAll_h : ∀ (zs : List Nat) (st : St) (q : Nat), look (strikeAll zs st).h q = if q ∈ zs then none else (look st.h q).map (Ob.strikes zs)
  | [], st, q => by simp [strikeAll, Ob.strikes]; cases look st.h q <;> rfl
  | z :: zs, st, q => by
    simp only [strikeAll, List.foldl_cons]
    have := look_strikeAll_h zs (st.strike z) q
    simp only [strikeAll] at this
    rw [this, look_strike]
    by_cases h1 : q ∈ zs
    · simp [h1]
    · by_cases h2 : q = z
      · simp [h2]
      · simp only [h1, if_false, h2, List.mem_cons, or_self]
        cases look st.h q <;> rfl
theorem look_dropAll' {α : Type} : ∀ (ks : List Nat) (l : List (Nat × α)) (q : Nat), look (dropAll ks l) q = if q ∈ ks then none else look l q
  | [], l, q => by simp [dropAll]
  | r :: ks, l, q => by
    simp only [dropAll, List.foldl_cons]
    have := look_dropAll' ks (Dip.drop r l) q
    simp only [dropAll] at this
    rw [this, look_drop]
    by_cases h1 : q ∈ ks
    · simp [h1]
    · by_cases h2 : q = r
      · simp [h2]
      · simp [h1, h2]
theorem Rec.look_t (c : Rec) (st : St) (i : Nat) : look (c.upd st).t i = if c.dst = some i then some c.v else (look st.t i).map (GV.strikes c.del.zs) := by
  have h : look (c.del.app st).t i = (look st.t i).map (GV.strikes c.del.zs) := by
    simp only [Delta.app]
    rw [look_strikeAll_t]
  unfold Rec.upd
  cases hd : c.dst with
  | none => simp only [St.put, reduceCtorEq, if_false]; exact h
  | some d =>
    simp only [St.put, look_cons, Option.some.injEq]
    by_cases e : i = d
    · simp [e]
    · rw [if_neg e, if_neg (fun e' => e e'.symm)]
      exact h
theorem Rec.look_h (c : Rec) (st : St) (q : Nat) : look (c.upd st).h q = (look c.del.add q).or (if q ∈ c.del.zs ∨ q ∈ c.del.ds then none else (look st.h q).map (Ob.strikes c.del.zs)) := by
  have h : look (c.del.app st).h q = (look c.del.add q).or (if q ∈ c.del.zs ∨ q ∈ c.del.ds then none else (look st.h q).map (Ob.strikes c.del.zs)) := by
    simp only [Delta.app]
    rw [look_append, look_strikeAll_h]
    congr 1
    by_cases h1 : q ∈ c.del.zs
    · simp [h1]
    · simp only [h1, if_false, false_or]
      rw [look_dropAll']
      by_cases h2 : q ∈ c.del.ds <;> simp [h2]
  unfold Rec.upd
  cases hd : c.dst <;> exact h
theorem Rec.wr_none {c : Rec} {q : Nat} (h : q ∉ c.wr) : q ∉ c.del.zs ∧ q ∉ c.del.ds ∧ look c.del.add q = none := by
  simp only [Rec.wr, List.mem_append, not_or] at h
  refine ⟨h.1, h.2.1, ?_⟩
  cases hl : look c.del.add q with
  | none => rfl
  | some o => exact absurd (List.mem_map.2 ⟨(q, o), look_mem _ _ _ hl, rfl⟩) h.2.2
theorem Rec.said_v {c : Rec} {zs : List Nat} (h : ∀ z, z ∈ zs → z ∉ c.said) : c.v.strikes zs = c.v :=
  GV.strikes_id fun z hz hk => h z hz (by simp only [Rec.said, List.mem_append]; exact .inl hk)
theorem Rec.said_add {c : Rec} {zs : List Nat} (h : ∀ z, z ∈ zs → z ∉ c.said) {q : Nat} {o : Ob} (ho : look c.del.add q = some o) : o.strikes zs = o :=
  Ob.strikes_id fun z hz hk => h z hz (by simp only [Rec.said, List.mem_append, List.mem_flatMap]; exact .inr ⟨(q, o), look_mem _ _ _ ho, hk⟩)
def Eqv (s s' : St) : Prop := (∀ i, look s.t i = look s'.t i) ∧ ∀ q, look s.h q = look s'.h q
theorem Eqv.refl (s : St) : Eqv s s := ⟨fun _ => rfl, fun _ => rfl⟩
theorem Eqv.symm {s s' : St} (h : Eqv s s') : Eqv s' s := ⟨fun i => (h.1 i).symm, fun q => (h.2 q).symm⟩
theorem Eqv.trans {a b c : St} (h : Eqv a b) (k : Eqv b c) : Eqv a c := ⟨fun i => (h.1 i).trans (k.1 i), fun q => (h.2 q).trans (k.2 q)⟩
theorem Eqv.upd {s s' : St} (h : Eqv s s') (c : Rec) : Eqv (c.upd s) (c.upd s') :=
  ⟨fun i => by rw [Rec.look_t, Rec.look_t, h.1 i], fun q => by rw [Rec.look_h, Rec.look_h, h.2 q]⟩
theorem Sim.eqv {X : Cx} {n : Nat} {I : Mem} {μ : Locs} {s s' : St} {a : Act} {w : World} (h : Sim X n I μ s a w) (e : Eqv s s') : Sim X n I μ s' a w := by
  refine ⟨h.size, h.defers, fun i v hv => h.t i v (by rw [e.1 i]; exact hv), ⟨?_, ?_, ?_, ?_, ?_⟩, h.im, h.bw, h.fr, h.cx, h.base⟩
  · intro r o ho; exact h.h.ok r o (by rw [e.2 r]; exact ho)
  · intro r r' o o' l l' b ho ho' hne hl hl' hb; exact h.h.apart r r' o o' l l' b (by rw [e.2 r]; exact ho) (by rw [e.2 r']; exact ho') hne hl hl' hb
  · intro r o l b ho hl hb; exact h.h.imm r o l b (by rw [e.2 r]; exact ho) hl hb
  · intro r o l b ho hl hb; exact h.h.own r o l b (by rw [e.2 r]; exact ho) hl hb
  · intro r r' o o' ho ho' hne hb; exact h.h.alone r r' o o' (by rw [e.2 r]; exact ho) (by rw [e.2 r']; exact ho') hne hb
structure Apart (c d : Rec) : Prop where
  dst : ∀ i, c.dst = some i → d.dst ≠ some i
  said1 : ∀ z, z ∈ c.wr → z ∉ d.said
  said2 : ∀ z, z ∈ d.wr → z ∉ c.said
  wr : ∀ z, z ∈ c.wr → z ∉ d.wr
theorem Apart.symm {c d : Rec} (h : Apart c d) : Apart d c := ⟨fun i h1 h2 => h.dst i h2 h1, h.said2, h.said1, fun z h1 h2 => h.wr z h2 h1⟩
theorem Rec.zs_wr {c : Rec} {z : Nat} (h : z ∈ c.del.zs) : z ∈ c.wr := by simp only [Rec.wr, List.mem_append]; exact .inl h
theorem Apart.comm {c d : Rec} (h : Apart c d) (s : St) : Eqv (c.upd (d.upd s)) (d.upd (c.upd s)) := by
  refine ⟨fun i => ?_, fun q => ?_⟩
  · rw [Rec.look_t, Rec.look_t, Rec.look_t, Rec.look_t]
    by_cases h1 : c.dst = some i
    · rw [if_pos h1, if_neg (h.dst i h1), if_pos h1]
      simp only [Option.map_some]
      rw [Rec.said_v fun z hz => h.said2 z (Rec.zs_wr hz)]
    · rw [if_neg h1, if_neg h1]
      by_cases h2 : d.dst = some i
      · rw [if_pos h2, if_pos h2]
        simp only [Option.map_some]
        rw [Rec.said_v fun z hz => h.said1 z (Rec.zs_wr hz)]
      · rw [if_neg h2, if_neg h2]
        cases look s.t i with
        | none => rfl
        | some v => simp only [Option.map_some]; rw [GV.strikes_comm]
  · rw [Rec.look_h, Rec.look_h, Rec.look_h, Rec.look_h]
    by_cases h1 : q ∈ c.wr
    · have h2 := h.wr q h1
      obtain ⟨k1, k2, k3⟩ := Rec.wr_none h2
      simp only [k1, k2, k3, or_self, if_false, Option.none_or]
      cases ha : look c.del.add q with
      | some o =>
        simp only [Option.some_or, Option.map_some]
        rw [Rec.said_add (fun z hz => h.said2 z (Rec.zs_wr hz)) ha]
      | none =>
        simp only [Option.none_or]
        by_cases h3 : q ∈ c.del.zs ∨ q ∈ c.del.ds
        · rw [if_pos h3, if_pos h3]; rfl
        · simp only [Rec.wr, List.mem_append] at h1
          rcases h1 with h1 | h1 | h1
          · exact absurd (.inl h1) h3
          · exact absurd (.inr h1) h3
          · exfalso
            obtain ⟨x, hx, rfl⟩ := List.mem_map.1 h1
            have : ∀ (l : List (Nat × Ob)), x ∈ l → look l x.1 ≠ none := by
              intro l
              induction l with
              | nil => intro h; simp at h
              | cons y l ih =>
                intro h
                rw [look_cons]
                by_cases e : x.1 = y.1
                · simp [e]
                · rw [if_neg e]
                  rcases List.mem_cons.1 h with e' | h
                  · exact absurd (by rw [e']) e
                  · exact ih h
            exact this _ hx ha
    · obtain ⟨k1, k2, k3⟩ := Rec.wr_none h1
      simp only [k1, k2, k3, or_self, if_false, Option.none_or]
      cases ha : look d.del.add q with
      | some o =>
        simp only [Option.some_or, Option.map_some]
        rw [Rec.said_add (fun z hz => h.said1 z (Rec.zs_wr hz)) ha]
      | none =>
        simp only [Option.none_or]
        by_cases h3 : q ∈ d.del.zs ∨ q ∈ d.del.ds
        · rw [if_pos h3, if_pos h3]; rfl
        · rw [if_neg h3, if_neg h3]
          cases look s.h q with
          | none => rfl
          | some o => simp only [Option.map_some]; rw [Ob.strikes_comm]
def Sub (S s : St) : Prop := (∀ i v, look s.t i = some v → ∃ u zs, look S.t i = some u ∧ v = u.strikes zs) ∧ ∀ q o, look s.h q = some o → ∃ p zs, look S.h q = some p ∧ o = p.strikes zs
theorem Sub.of_eqv {S S' s : St} (h : Sub S s) (e : Eqv S S') : Sub S' s :=
  ⟨fun i v hv => by obtain ⟨u, zs, h1, h2⟩ := h.1 i v hv; exact ⟨u, zs, by rw [← e.1 i]; exact h1, h2⟩,
   fun q o ho => by obtain ⟨p, zs, h1, h2⟩ := h.2 q o ho; exact ⟨p, zs, by rw [← e.2 q]; exact h1, h2⟩⟩
theorem Sim.sub {X : Cx} {n : Nat} {I : Mem} {μ : Locs} {S s : St} {a : Act} {w : World} (h : Sim X n I μ S a w) (hs : Sub S s) : Sim X n I μ s a w := by
  refine ⟨h.size, h.defers, fun i v hv => ?_, ⟨?_, ?_, ?_, ?_, ?_⟩, h.im, h.bw, h.fr, h.cx, h.base⟩
  · obtain ⟨u, zs, h1, rfl⟩ := hs.1 i v hv
    exact (h.t i u h1).strikes zs
  · intro r o ho
    obtain ⟨p, zs, h1, rfl⟩ := hs.2 r o ho
    exact (h.h.ok r p h1).le' (ObLe.strikes zs p) rfl fun _ _ => rfl
  · intro r r' o o' l l' b ho ho' hne hl hl' hb
    obtain ⟨p, zs, h1, rfl⟩ := hs.2 r o ho
    obtain ⟨p', zs', h1', rfl⟩ := hs.2 r' o' ho'
    exact h.h.apart r r' p p' l l' b h1 h1' hne hl hl' hb
  · intro r o l b ho hl hb
    obtain ⟨p, zs, h1, rfl⟩ := hs.2 r o ho
    exact h.h.imm r p l b h1 hl hb
  · intro r o l b ho hl hb
    obtain ⟨p, zs, h1, rfl⟩ := hs.2 r o ho
    exact h.h.own r p l b h1 hl hb
  · intro r r' o o' ho ho' hne hb
    obtain ⟨p, zs, h1, rfl⟩ := hs.2 r o ho
    obtain ⟨p', zs', h1', rfl⟩ := hs.2 r' o' ho'
    rw [(ObLe.strikes zs p).isBld] at hb
    rw [(ObLe.strikes zs' p').isBld, (ObLe.strikes zs' p').isByte]
    exact h.h.alone r r' p p' h1 h1' hne hb
structure Rel (zs ds ws : List Nat) (S S' : St) : Prop where
  t : ∀ i, i ∉ ds → ∀ v, look S'.t i = some v → ∃ u, look S.t i = some u ∧ v = u.strikes zs
  h : ∀ q, q ∉ ws → ∀ o, look S'.h q = some o → ∃ p, look S.h q = some p ∧ o = p.strikes zs
theorem Rel.refl (S : St) : Rel [] [] [] S S := ⟨fun i _ v h => ⟨v, h, rfl⟩, fun q _ o h => ⟨o, h, rfl⟩⟩
def Rec.dsts (c : Rec) : List Nat := match c.dst with
  | some d => [d]
  | none => []
theorem Rel.more {zs ds ws : List Nat} {S S' : St} (h : Rel zs ds ws S S') (c : Rec) : Rel (zs ++ c.del.zs) (c.dsts ++ ds) (c.wr ++ ws) S (c.upd S') := by
  refine ⟨fun i hi v hv => ?_, fun q hq o ho => ?_⟩
  · simp only [List.mem_append, not_or] at hi
    rw [Rec.look_t, if_neg (by
      intro e
      apply hi.1
      simp [Rec.dsts, e])] at hv
    obtain ⟨v0, h1, rfl⟩ := Option.map_eq_some_iff.1 hv
    obtain ⟨u, h2, rfl⟩ := h.t i hi.2 v0 h1
    exact ⟨u, h2, by rw [GV.strikes_append]⟩
  · simp only [List.mem_append, not_or] at hq
    obtain ⟨k1, k2, k3⟩ := Rec.wr_none hq.1
    rw [Rec.look_h, k3] at ho
    simp only [k1, k2, or_self, if_false, Option.none_or] at ho
    obtain ⟨o0, h1, rfl⟩ := Option.map_eq_some_iff.1 ho
    obtain ⟨p, h2, rfl⟩ := h.h q hq.2 o0 h1
    exact ⟨p, h2, by rw [Ob.strikes_append]⟩
theorem Rel.both {zs ds ws : List Nat} {S S' : St} (h : Rel zs ds ws S S') (c : Rec) (hz : ∀ z, z ∈ zs → z ∉ c.said) : Rel zs ds ws (c.upd S) (c.upd S') := by
  refine ⟨fun i hi v hv => ?_, fun q hq o ho => ?_⟩
  · rw [Rec.look_t] at hv ⊢
    by_cases e : c.dst = some i
    · rw [if_pos e] at hv ⊢
      injection hv with hv
      subst hv
      exact ⟨_, rfl, (Rec.said_v hz).symm⟩
    · rw [if_neg e] at hv ⊢
      obtain ⟨v0, h1, rfl⟩ := Option.map_eq_some_iff.1 hv
      obtain ⟨u, h2, rfl⟩ := h.t i hi v0 h1
      exact ⟨_, by rw [h2]; rfl, GV.strikes_comm _ _ _⟩
  · rw [Rec.look_h] at ho ⊢
    cases ha : look c.del.add q with
    | some o' =>
      rw [ha] at ho
      simp only [Option.some_or, Option.some.injEq] at ho
      subst ho
      exact ⟨_, rfl, (Rec.said_add hz ha).symm⟩
    | none =>
      rw [ha] at ho
      simp only [Option.none_or] at ho ⊢
      by_cases e : q ∈ c.del.zs ∨ q ∈ c.del.ds
      · rw [if_pos e] at ho; cases ho
      · rw [if_neg e] at ho ⊢
        obtain ⟨o0, h1, rfl⟩ := Option.map_eq_some_iff.1 ho
        obtain ⟨p, h2, rfl⟩ := h.h q hq o0 h1
        exact ⟨_, by rw [h2]; rfl, Ob.strikes_comm _ _ _⟩
end Go.Dip
end
/- An ideal semantics of the model's code, part 25: operations in any order that their edges allow. -/
section
set_option linter.unusedVariables false
set_option linter.unusedSimpArgs false
namespace Go.Dip
structure Free (c : Rec) (s : St) : Prop where
  t : ∀ i, c.dst = some i → look s.t i = none
  h : ∀ z, z ∈ c.wr → look s.h z = none
  said : ∀ z, z ∈ c.wr → (∀ i v, look s.t i = some v → z ∉ v.keys) ∧ ∀ q o, look s.h q = some o → z ∉ o.keys
theorem GV.strikes_of (zs ys : List Nat) {u v : GV} (h : v = u.strikes zs) (hk : ∀ z, z ∈ ys → z ∉ v.keys) : v = (u.strikes ys).strikes zs := by
  rw [GV.strikes_comm, ← h, GV.strikes_id hk]
theorem Ob.strikes_of (zs ys : List Nat) {u v : Ob} (h : v = u.strikes zs) (hk : ∀ z, z ∈ ys → z ∉ v.keys) : v = (u.strikes ys).strikes zs := by
  rw [Ob.strikes_comm, ← h, Ob.strikes_id hk]
theorem Sub.upd {S s : St} (h : Sub S s) {c : Rec} (hf : Free c s) : Sub (c.upd S) s := by
  refine ⟨fun i v hv => ?_, fun q o ho => ?_⟩
  · obtain ⟨u, zs, h1, h2⟩ := h.1 i v hv
    rw [Rec.look_t]
    by_cases e : c.dst = some i
    · rw [hf.t i e] at hv; cases hv
    · rw [if_neg e, h1]
      exact ⟨_, zs, rfl, GV.strikes_of zs _ h2 fun z hz => (hf.said z (Rec.zs_wr hz)).1 i v hv⟩
  · obtain ⟨p, zs, h1, h2⟩ := h.2 q o ho
    have hq : q ∉ c.wr := fun hm => by rw [hf.h q hm] at ho; cases ho
    obtain ⟨k1, k2, k3⟩ := Rec.wr_none hq
    rw [Rec.look_h, k3]
    simp only [k1, k2, or_self, if_false, Option.none_or]
    rw [h1]
    exact ⟨_, zs, rfl, Ob.strikes_of zs _ h2 fun z hz => (hf.said z (Rec.zs_wr hz)).2 q o ho⟩
def foldL (c : Nat → Rec) (L : Nat → Bool) : List Nat → St → St
  | [], S => S
  | k :: l, S => foldL c L l (if L k = true then (c k).upd S else S)
theorem foldL_append (c : Nat → Rec) (L : Nat → Bool) : ∀ (l m : List Nat) (S : St), foldL c L (l ++ m) S = foldL c L m (foldL c L l S)
  | [], m, S => rfl
  | k :: l, m, S => by simp only [List.cons_append, foldL]; exact foldL_append c L l m _
theorem foldL_congr {c : Nat → Rec} {L L' : Nat → Bool} : ∀ {l : List Nat} (S : St), (∀ k, k ∈ l → L k = L' k) → foldL c L l S = foldL c L' l S
  | [], S, _ => rfl
  | k :: l, S, h => by
    simp only [foldL]
    rw [h k (by simp)]
    exact foldL_congr _ fun j hj => h j (by simp [hj])
theorem foldL_eqv {c : Nat → Rec} {L : Nat → Bool} : ∀ {l : List Nat} {S S' : St}, Eqv S S' → Eqv (foldL c L l S) (foldL c L l S')
  | [], S, S', h => h
  | k :: l, S, S', h => by
    simp only [foldL]
    by_cases e : L k = true
    · rw [if_pos e, if_pos e]; exact foldL_eqv (h.upd _)
    · rw [if_neg e, if_neg e]; exact foldL_eqv h
theorem foldL_past {c : Nat → Rec} {L : Nat → Bool} {i : Nat} : ∀ {l : List Nat} {S : St}, (∀ k, k ∈ l → L k = true → Apart (c i) (c k)) → Eqv ((c i).upd (foldL c L l S)) (foldL c L l ((c i).upd S))
  | [], S, _ => Eqv.refl _
  | k :: l, S, h => by
    simp only [foldL]
    by_cases e : L k = true
    · rw [if_pos e, if_pos e]
      refine (foldL_past fun j hj hl => h j (by simp [hj]) hl).trans (foldL_eqv ?_)
      exact (h k (by simp) e).comm S
    · rw [if_neg e, if_neg e]
      exact foldL_past fun j hj hl => h j (by simp [hj]) hl
theorem foldL_sub {c : Nat → Rec} {L : Nat → Bool} {s : St} : ∀ {l : List Nat} {S : St}, Sub S s → (∀ k, k ∈ l → L k = true → Free (c k) s) → Sub (foldL c L l S) s
  | [], S, h, _ => h
  | k :: l, S, h, hf => by
    simp only [foldL]
    by_cases e : L k = true
    · rw [if_pos e]
      exact foldL_sub (h.upd (hf k (by simp) e)) fun j hj hl => hf j (by simp [hj]) hl
    · rw [if_neg e]
      exact foldL_sub h fun j hj hl => hf j (by simp [hj]) hl
theorem foldL_rel {c : Nat → Rec} {L : Nat → Bool} : ∀ {l : List Nat} {done : List Nat} {S S' : St} {zs ds ws : List Nat}, Rel zs ds ws S S' → (∀ z, z ∈ zs → ∃ j, j ∈ done ∧ L j = false ∧ z ∈ (c j).wr) →
    (∀ i, i ∈ ds → ∃ j, j ∈ done ∧ L j = false ∧ (c j).dst = some i) → (∀ z, z ∈ ws → ∃ j, j ∈ done ∧ L j = false ∧ z ∈ (c j).wr) →
    (∀ j k, [j, k].Sublist l → L j = false → L k = true → Apart (c j) (c k)) → (∀ j k, j ∈ done → k ∈ l → L j = false → L k = true → Apart (c j) (c k)) →
    ∃ zs ds ws, Rel zs ds ws (foldL c L l S) (foldL c (fun _ => true) l S') ∧ (∀ i, i ∈ ds → ∃ j, (j ∈ done ∨ j ∈ l) ∧ L j = false ∧ (c j).dst = some i) ∧ (∀ z, z ∈ ws → ∃ j, (j ∈ done ∨ j ∈ l) ∧ L j = false ∧ z ∈ (c j).wr)
  | [], done, S, S', zs, ds, ws, h, hz, hd, hw, _, _ => ⟨zs, ds, ws, h, fun i hi => by obtain ⟨j, h1, h2⟩ := hd i hi; exact ⟨j, .inl h1, h2⟩, fun z hz => by obtain ⟨j, h1, h2⟩ := hw z hz; exact ⟨j, .inl h1, h2⟩⟩
  | k :: l, done, S, S', zs, ds, ws, h, hz, hd, hw, h2, h3 => by
    simp only [foldL, if_true]
    by_cases e : L k = true
    · rw [if_pos e]
      have hb := h.both (c k) (fun z hzz => by
        obtain ⟨j, j1, j2, j3⟩ := hz z hzz
        exact (h3 j k j1 (by simp) j2 e).said1 z j3)
      obtain ⟨zs', ds', ws', r1, r2, r3⟩ := foldL_rel (done := done) hb hz hd hw (fun j q hs => h2 j q (hs.trans (List.sublist_cons_self k l))) (fun j q hj hq => h3 j q hj (by simp [hq]))
      refine ⟨zs', ds', ws', r1, fun i hi => ?_, fun z hz => ?_⟩
      · obtain ⟨j, j1, j2⟩ := r2 i hi; exact ⟨j, j1.imp id (by simp +contextual), j2⟩
      · obtain ⟨j, j1, j2⟩ := r3 z hz; exact ⟨j, j1.imp id (by simp +contextual), j2⟩
    · rw [if_neg e]
      have ef : L k = false := by simpa using e
      have hm := h.more (c k)
      obtain ⟨zs', ds', ws', r1, r2, r3⟩ := foldL_rel (done := k :: done) hm (fun z hzz => by
          rcases List.mem_append.1 hzz with hzz | hzz
          · obtain ⟨j, j1, j2⟩ := hz z hzz; exact ⟨j, by simp [j1], j2⟩
          · exact ⟨k, by simp, ef, Rec.zs_wr hzz⟩) (fun i hi => by
          rcases List.mem_append.1 hi with hi | hi
          · refine ⟨k, by simp, ef, ?_⟩
            unfold Rec.dsts at hi
            split at hi
            · rename_i d hdd; simp at hi; subst hi; exact hdd
            · simp at hi
          · obtain ⟨j, j1, j2⟩ := hd i hi; exact ⟨j, by simp [j1], j2⟩) (fun z hzz => by
          rcases List.mem_append.1 hzz with hzz | hzz
          · exact ⟨k, by simp, ef, hzz⟩
          · obtain ⟨j, j1, j2⟩ := hw z hzz; exact ⟨j, by simp [j1], j2⟩) (fun j q hs => h2 j q (hs.trans (List.sublist_cons_self k l))) (fun j q hj hq hLj hLq => by
          rcases List.mem_cons.1 hj with rfl | hj
          · exact h2 j q (List.Sublist.cons_cons j (List.singleton_sublist.2 hq)) hLj hLq
          · exact h3 j q hj (by simp [hq]) hLj hLq)
      refine ⟨zs', ds', ws', r1, fun i hi => ?_, fun z hz => ?_⟩
      · obtain ⟨j, j1, j2⟩ := r2 i hi
        refine ⟨j, ?_, j2⟩
        rcases j1 with j1 | j1
        · rcases List.mem_cons.1 j1 with rfl | j1
          · exact .inr (by simp)
          · exact .inl j1
        · exact .inr (by simp [j1])
      · obtain ⟨j, j1, j2⟩ := r3 z hz
        refine ⟨j, ?_, j2⟩
        rcases j1 with j1 | j1
        · rcases List.mem_cons.1 j1 with rfl | j1
          · exact .inr (by simp)
          · exact .inl j1
        · exact .inr (by simp [j1])
section
variable {P : Program} {ops : Array Oper} {Q : Exit → Act → World → Prop}
def bindsAny (e : Edge) : Bool := Region.binds .any e
def Closed (ops : Array Oper) (L : Nat → Bool) : Prop := ∀ (k : Nat) o, L k = true → ops[k]? = some o → ∀ e, e ∈ o.after → bindsAny e = true → L e.on = true
theorem getD_listed {listed : Array Bool} {k : Nat} (h : k < listed.size) (d d' : Bool) : listed.getD k d = listed.getD k d' := by simp [Array.getD, h]
theorem range_split (i m : Nat) (h : i < m) : List.range m = List.range i ++ i :: List.range' (i + 1) (m - (i + 1)) := by
  have e : m = i + ((m - (i + 1)) + 1) := by omega
  conv => lhs; rw [e, List.range_eq_range', ← List.range'_append_1]
  rw [List.range'_succ, Nat.zero_add, ← List.range_eq_range']
theorem orders {n : Nat} {X : Cx} {c : Nat → Rec} {s : Nat → St} {st0 : St} {pre : Nat → Nat → Prop} {I : Mem} {μ : Locs}
    (hback : ∀ (k : Nat) o, ops[k]? = some o → ∀ e, e ∈ o.after → bindsAny e = true → e.on < k)
    (hpre : ∀ L, Closed ops L → (∀ k, L k = true → k < ops.size) → ∀ i k, L k = true → pre i k → L i = true)
    (hap : ∀ i k, i < k → k < ops.size → ¬ pre i k → Apart (c i) (c k) ∧ Free (c i) (s k) ∧ Free (c k) (s i))
    (hsub : ∀ i, i < ops.size → Sub (foldL c (fun _ => true) (List.range i) st0) (s i))
    (hT : ∀ i, i < ops.size → ∀ (S : St) J ν a w, NewI X I J → RowsOk ν → Keep μ ν → Sim X n J ν S a w → Sub S (s i) → ∀ K : Act → World → Prop,
      (∀ J' ν' a' w', NewI X I J' → RowsOk ν' → Keep μ ν' → Sim X n J' ν' ((c i).upd S) a' w' → K a' w') → wpOp P ops Q i K a w)
    (hQ : ∀ J ν a w, NewI X I J → RowsOk ν → Keep μ ν → Sim X n J ν (foldL c (fun _ => true) (List.range ops.size) st0) a w → Q .normal a w) :
    ∀ (fuel : Nat) (listed : Array Bool) J ν a w, listed.size = ops.size → Closed ops (fun k => listed.getD k false) → NewI X I J → RowsOk ν → Keep μ ν → Sim X n J ν (foldL c (fun k => listed.getD k false) (List.range ops.size) st0) a w →
      ((List.range ops.size).filter fun k => !listed.getD k false).length ≤ fuel → wpAny P .any ops Q fuel listed a w := by
  have hdone : ∀ (listed : Array Bool), listed.size = ops.size → Region.ready .any ops listed = [] → ∀ k, k < ops.size → listed.getD k false = true := by
    intro listed hsz hr k
    induction k using Nat.strongRecOn with
    | _ k ih =>
      intro hk
      cases hl : listed.getD k false
      · exfalso
        have hm : k ∈ Region.ready .any ops listed := by
          rw [mem_ready]
          refine ⟨by rw [getD_listed (by omega) true false]; exact hl, ops[k], by simp [hk], fun e he hb => ?_⟩
          have := hback k ops[k] (by simp [hk]) e he hb
          exact ih e.on this (by omega)
        rw [hr] at hm
        simp at hm
      · rfl
  have hall : ∀ (listed : Array Bool) J ν a w, listed.size = ops.size → NewI X I J → RowsOk ν → Keep μ ν → Sim X n J ν (foldL c (fun k => listed.getD k false) (List.range ops.size) st0) a w → Region.ready .any ops listed = [] → Q .normal a w := by
    intro listed J ν a w hsz h1 h2 h3 h4 hr
    refine hQ J ν a w h1 h2 h3 ?_
    rw [foldL_congr (L' := fun k => listed.getD k false) st0 fun k hk => (hdone listed hsz hr k (by simpa using hk)).symm]
    exact h4
  intro fuel
  induction fuel with
  | zero =>
    intro listed J ν a w hsz hcl h1 h2 h3 h4 hf
    have hr : Region.ready .any ops listed = [] := by
      apply List.eq_nil_iff_forall_not_mem.2
      intro k hk
      rw [mem_ready] at hk
      obtain ⟨k1, o, k2, _⟩ := hk
      have hlt : k < ops.size := (Array.getElem?_eq_some_iff.1 k2).1
      have : k ∈ (List.range ops.size).filter fun k => !listed.getD k false := by
        rw [List.mem_filter]
        refine ⟨by simpa using hlt, ?_⟩
        rw [getD_listed (by omega) false true, k1]; rfl
      have h0 : (List.range ops.size).filter (fun k => !listed.getD k false) = [] := List.eq_nil_of_length_eq_zero (by omega)
      rw [h0] at this
      simp at this
    exact ⟨hr, hall listed J ν a w hsz h1 h2 h3 h4 hr⟩
  | succ fuel ih =>
    intro listed J ν a w hsz hcl h1 h2 h3 h4 hf
    refine ⟨hall listed J ν a w hsz h1 h2 h3 h4, fun i hi => ?_⟩
    rw [mem_ready] at hi
    obtain ⟨i1, o, i2, i3⟩ := hi
    have hlt : i < ops.size := (Array.getElem?_eq_some_iff.1 i2).1
    have i1' : listed.getD i false = false := by rw [getD_listed (by omega) false true]; exact i1
    have hLlt : ∀ k, listed.getD k false = true → k < ops.size := by
      intro k hk
      rcases Nat.lt_or_ge k ops.size with h | h
      · exact h
      · simp [Array.getD, Nat.not_lt.2 (show listed.size ≤ k by omega)] at hk
    -- what waits for i is not there, what i waits for is
    have notpre : ∀ k, listed.getD k false = true → ¬ pre i k := fun k hk hp => by
      have := hpre (fun k => listed.getD k false) hcl hLlt i k hk hp
      have this : listed.getD i false = true := this
      rw [i1'] at this
      cases this
    have hcl' : Closed ops (fun k => (listed.setIfInBounds i true).getD k false) := by
      intro k o' hk ho' e he hb
      simp only at hk ⊢
      by_cases e1 : i = k
      · subst e1
        rw [i2] at ho'
        injection ho' with ho'
        subst ho'
        exact getD_set_true (i3 e he hb)
      · rw [getD_set_ne false e1] at hk
        exact getD_set_true (hcl k o' hk ho' e he hb)
    have hi' : (listed.setIfInBounds i true).getD i false = true := by simp [show i < listed.size by omega]
    have hLlt' : ∀ k, (listed.setIfInBounds i true).getD k false = true → k < ops.size := by
      intro k hk
      by_cases e1 : i = k
      · subst e1; exact hlt
      · rw [getD_set_ne false e1] at hk; exact hLlt k hk
    have notpre' : ∀ j, listed.getD j false = false → j ≠ i → ¬ pre j i := fun j hj hne hp => by
      have := hpre (fun k => (listed.setIfInBounds i true).getD k false) hcl' hLlt' j i hi' hp
      have this : (listed.setIfInBounds i true).getD j false = true := this
      rw [getD_set_ne false (fun e => hne e.symm), hj] at this
      cases this
    rw [range_split i ops.size hlt, foldL_append] at h4
    simp only [foldL, i1', Bool.false_eq_true, if_false] at h4
    -- the footprint
    have hS : Sub (foldL c (fun k => listed.getD k false) (List.range' (i + 1) (ops.size - (i + 1))) (foldL c (fun k => listed.getD k false) (List.range i) st0)) (s i) := by
      refine foldL_sub ?_ ?_
      · obtain ⟨zs, ds, ws, r1, r2, r3⟩ := foldL_rel (c := c) (L := fun k => listed.getD k false) (l := List.range i) (done := []) (Rel.refl st0) (by simp) (by simp) (by simp) (by
          intro j k hs hj hk
          have hs' : [j, k].Sublist (List.range i) := hs
          have hp := List.pairwise_lt_range (n := i)
          have hjk : j < k := by
            have := hp.sublist hs'
            simpa using this
          have hki : k < i := by
            have : k ∈ List.range i := hs'.subset (by simp)
            simpa using this
          refine (hap j k hjk (by omega) fun hpp => ?_).1
          have := hpre (fun k => listed.getD k false) hcl hLlt j k hk hpp
          have this : listed.getD j false = true := this
          have hj : listed.getD j false = false := hj
          rw [hj] at this
          cases this) (by simp)
        obtain ⟨b1, b2⟩ := hsub i hlt
        have miss : ∀ j, j ∈ ([] : List Nat) ∨ j ∈ List.range i → listed.getD j false = false → Free (c j) (s i) := by
          intro j hj hl
          have hji : j < i := by
            rcases hj with hj | hj
            · simp at hj
            · simpa using hj
          exact (hap j i hji hlt (notpre' j hl (by omega))).2.1
        refine ⟨fun t v hv => ?_, fun q o ho => ?_⟩
        · obtain ⟨u, zs0, g1, g2⟩ := b1 t v hv
          have ht : t ∉ ds := fun hm => by
            obtain ⟨j, j1, j2, j3⟩ := r2 t hm
            rw [(miss j j1 j2).t t j3] at hv
            cases hv
          obtain ⟨u0, g3, g4⟩ := r1.t t ht u g1
          exact ⟨u0, zs ++ zs0, g3, by rw [GV.strikes_append, ← g4]; exact g2⟩
        · obtain ⟨p, zs0, g1, g2⟩ := b2 q o ho
          have hq : q ∉ ws := fun hm => by
            obtain ⟨j, j1, j2, j3⟩ := r3 q hm
            rw [(miss j j1 j2).h q j3] at ho
            cases ho
          obtain ⟨u0, g3, g4⟩ := r1.h q hq p g1
          exact ⟨u0, zs ++ zs0, g3, by rw [Ob.strikes_append, ← g4]; exact g2⟩
      · intro k hk hl
        have hk' : i + 1 ≤ k ∧ k < ops.size := by
          rw [List.mem_range'_1] at hk
          omega
        exact (hap i k (by omega) hk'.2 (notpre k hl)).2.2
    refine hT i hlt _ J ν a w h1 h2 h3 h4 hS _ ?_
    intro J' ν' a' w' m1 m2 m3 m4
    refine ih _ J' ν' a' w' (by simpa using hsz) hcl' m1 m2 m3 ?_ ?_
    · refine m4.eqv ?_
      rw [range_split i ops.size hlt, foldL_append]
      simp only [foldL, hi', if_true]
      have e1 : foldL c (fun k => (listed.setIfInBounds i true).getD k false) (List.range i) st0 = foldL c (fun k => listed.getD k false) (List.range i) st0 := foldL_congr st0 (fun k hk => by
        have : k < i := by simpa using hk
        exact getD_set_ne false (by omega))
      have e2 : ∀ S, foldL c (fun k => (listed.setIfInBounds i true).getD k false) (List.range' (i + 1) (ops.size - (i + 1))) S = foldL c (fun k => listed.getD k false) (List.range' (i + 1) (ops.size - (i + 1))) S := fun S => foldL_congr S (fun k hk => by
        rw [List.mem_range'_1] at hk
        exact getD_set_ne false (by omega))
      rw [e1, e2]
      refine foldL_past fun k hk hl => ?_
      have hk' : i + 1 ≤ k ∧ k < ops.size := by
        rw [List.mem_range'_1] at hk
        omega
      exact (hap i k (by omega) hk'.2 (notpre k hl)).1
    · have hlen : ∀ (l : List Nat), l.Nodup → i ∈ l → (l.filter fun k => !(listed.setIfInBounds i true).getD k false).length + 1 ≤ (l.filter fun k => !listed.getD k false).length := by
        intro l
        induction l with
        | nil => intro _ h; simp at h
        | cons x l ihl =>
          intro hnd hm
          rw [List.nodup_cons] at hnd
          by_cases hx : x = i
          · subst hx
            rw [List.filter_cons_of_neg (by rw [hi']; simp), List.filter_cons_of_pos (by rw [i1']; simp)]
            simp only [List.length_cons]
            have : (l.filter fun k => !(listed.setIfInBounds x true).getD k false) = l.filter fun k => !listed.getD k false := by
              apply List.filter_congr
              intro k hk
              rw [getD_set_ne false (fun e => hnd.1 (by rw [e]; exact hk))]
            rw [this]
            exact Nat.le_refl _
          · have hm' : i ∈ l := by
              rcases List.mem_cons.1 hm with e | h
              · exact absurd e.symm hx
              · exact h
            have h5 := ihl hnd.2 hm'
            have e5 : (listed.setIfInBounds i true).getD x false = listed.getD x false := getD_set_ne false (fun e => hx e.symm)
            simp only [List.filter_cons, e5]
            split
            · simp only [List.length_cons]; omega
            · exact h5
      have := hlen (List.range ops.size) List.nodup_range (by simpa using hlt)
      omega
end
end Go.Dip
end
/- An ideal semantics of the model's code, part 26: an operation on what it reads alone. -/
section
set_option linter.unusedVariables false
set_option linter.unusedSimpArgs false
namespace Go.Dip
section
variable {R : Type} {r : R} {P : Program} {E : Env} {tB : TypeId} {W0 : World}
theorem OpDoes.eqv {o : Oper} {S S1 S2 : St} {v : GV} (h : OpDoes P E tB W0 o S v S1) (e : Eqv S1 S2) : OpDoes P E tB W0 o S v S2 := by
  intro X n I μ a w hX hB hW hr hs
  refine (h hX hB hW hr hs).mono ?_
  rintro x w' ⟨J, ν, h1, h2, h3, h4⟩
  exact ⟨J, ν, h1, h2, h3.eqv e, h4⟩
theorem Delta.look_t (D : Delta) (st : St) (i : Nat) : look (D.app st).t i = (look st.t i).map (GV.strikes D.zs) := by
  have := Rec.look_t ⟨Option.none, .any, D⟩ st i
  simpa [Rec.upd, St.put] using this
theorem Delta.look_h (D : Delta) (st : St) (q : Nat) : look (D.app st).h q = (look D.add q).or (if q ∈ D.zs ∨ q ∈ D.ds then Option.none else (look st.h q).map (Ob.strikes D.zs)) := by
  have := Rec.look_h ⟨Option.none, .any, D⟩ st q
  simpa [Rec.upd, St.put] using this
theorem eqv_new (d : Nat) (ob : Ob) (S : St) : Eqv (newOb d ob (S.strike d)) ((⟨[d], [d], [(d, ob)]⟩ : Delta).app S) := by
  refine ⟨fun i => ?_, fun q => ?_⟩
  · rw [Delta.look_t]
    simp only [newOb, look_strike_t]
    rfl
  · rw [Delta.look_h]
    simp only [newOb, look_cons, look_strike, look, nbeq, List.mem_singleton, or_self]
    by_cases e : q = d
    · simp [e]
    · simp [e]; rfl
theorem eqv_move (r : Nat) (p ob : Ob) (S : St) : Eqv (moveRow r ob { S with h := (r, p) :: S.h }) ((⟨[r], [r], [(r, ob)]⟩ : Delta).app S) := by
  refine ⟨fun i => ?_, fun q => ?_⟩
  · rw [Delta.look_t]
    simp only [moveRow, newOb, look_strike_t]
    rfl
  · rw [Delta.look_h]
    simp only [moveRow, newOb, look_cons, look_strike, look, nbeq, List.mem_singleton, or_self]
    by_cases e : q = r
    · simp [e]
    · simp [e]; rfl
theorem eqv_set (r : Nat) (p ob : Ob) (S : St) : Eqv (setOb r ob { S with h := (r, p) :: S.h }) ((⟨[], [r], [(r, ob)]⟩ : Delta).app S) := by
  refine ⟨fun i => ?_, fun q => ?_⟩
  · rw [Delta.look_t]
    simp only [setOb, GV.strikes, List.foldl_nil]
    cases look S.t i <;> rfl
  · rw [Delta.look_h]
    simp only [setOb, look_cons, look_drop, look, nbeq, List.mem_singleton, List.not_mem_nil, false_or, Ob.strikes, List.foldl_nil]
    by_cases e : q = r
    · simp [e]
    · simp only [e, if_false, decide_false, cond_false, Option.none_or]
      cases look S.h q <;> rfl
theorem Sub.over {S s : St} (h : Sub S s) {q : Nat} {o : Ob} (ho : look s.h q = some o) : Sub S { S with h := (q, o) :: S.h } := by
  refine ⟨fun i v hv => ⟨v, [], hv, rfl⟩, fun k p hp => ?_⟩
  rw [look_cons] at hp
  by_cases e : k = q
  · rw [if_pos e] at hp
    injection hp with hp
    subst hp e
    exact h.2 k o ho
  · rw [if_neg e] at hp
    exact ⟨p, [], hp, rfl⟩
theorem Sub.overs {S s : St} (h : Sub S s) (ks : List Nat) : Sub S { S with h := footH s.h ks ++ S.h } := by
  refine ⟨fun i v hv => ⟨v, [], hv, rfl⟩, fun k p hp => ?_⟩
  rw [look_append] at hp
  have key : ∀ (l : List Nat) (p : Ob), look (footH s.h l) k = some p → look s.h k = some p := by
    intro l
    induction l with
    | nil => intro p hp; simp [footH, look] at hp
    | cons x l ih =>
      intro p hp
      simp only [footH] at hp
      split at hp
      · rename_i o ho
        rw [look_cons] at hp
        by_cases e : k = x
        · rw [if_pos e] at hp
          injection hp with hp
          subst hp e
          exact ho
        · rw [if_neg e] at hp
          exact ih p hp
      · exact ih p hp
  cases hl : look (footH s.h ks) k with
  | some p' =>
    rw [hl] at hp
    simp only [Option.some_or, Option.some.injEq] at hp
    subst hp
    exact h.2 k p' (key ks p' hl)
  | none =>
    rw [hl] at hp
    simp only [Option.none_or] at hp
    exact ⟨p, [], hp, rfl⟩
theorem look_footH {h : List (Nat × Ob)} {q : Nat} : ∀ {l : List Nat}, q ∈ l → look (footH h l) q = look h q
  | [], hq => by simp at hq
  | x :: l, hq => by
    simp only [footH]
    split
    · rename_i o ho
      rw [look_cons]
      by_cases e : q = x
      · rw [if_pos e, e, ho]
      · rw [if_neg e]
        rcases List.mem_cons.1 hq with e' | hq
        · exact absurd e' e
        · exact look_footH hq
    · rename_i ho
      by_cases e : q = x
      · by_cases hq' : q ∈ l
        · exact look_footH hq'
        · have : ∀ (l : List Nat), q ∉ l → look (footH h l) q = none := by
            intro l
            induction l with
            | nil => intro _; rfl
            | cons y l ih =>
              intro hn
              simp only [List.mem_cons, not_or] at hn
              simp only [footH]
              split
              · rw [look_cons, if_neg hn.1]; exact ih hn.2
              · exact ih hn.2
          rw [this l hq', e]
          exact ho.symm
      · rcases List.mem_cons.1 hq with e' | hq
        · exact absurd e' e
        · exact look_footH hq
theorem wParts0_inv (hE : EnvOk P E tB) {e : TypeId} {s : St} : ∀ {parts : List (Nat × Operand)} {n : Nat} {acc : List PV} {K : List PV → Option R}, wParts0 E e s parts n acc K = some r →
    ∃ es, K (acc.reverse ++ es) = some r ∧ es.length = n ∧ parts.length = n ∧ (∀ (j : Nat) x, parts[j]? = some x → x.1 = acc.length + j) ∧
      ∀ {X : Cx} {m : Nat} {I : Mem} {μ : Locs} {a : Act} {w : World}, X.E = E → Sim X m I μ s a w →
        ∀ (j : Nat) x, parts[j]? = some x → (es.getD j .any).cnt = E.sz e ∧ (a.eval x.2).cells.size = E.sz e ∧ ∀ i, i < E.sz e → RepP I (pcell (es.getD j .any) i) ((a.eval x.2).cells.toList.getD i undef) ∧ ((a.eval x.2).cells.toList.getD i undef).oneCell' = true
  | [], n, acc, K, h => by
    simp only [wParts0, nbeq] at h
    by_cases hn : n = 0
    · simp only [hn, decide_true, cond_true] at h
      exact ⟨[], by simpa using h, hn.symm, hn.symm, fun j x hj => by simp at hj, fun _ _ j x hj => by simp at hj⟩
    · simp [hn] at h
  | x :: parts, n, acc, K, h => by
    simp only [wParts0, nbeq] at h
    by_cases hx : x.1 = acc.length
    · simp only [hx, decide_true, cond_true] at h
      cases n with
      | zero => simp at h
      | succ n =>
        simp only at h
        split at h
        · rename_i y hy
          obtain ⟨h, hc, he⟩ := wElem_inv hE h
          obtain ⟨es, h1, h2, h3, h4, h5⟩ := wParts0_inv hE h
          refine ⟨y :: es, by simpa using h1, by simp [h2], by simp [h3], ?_, ?_⟩
          · intro j z hz
            cases j with
            | zero => simp at hz; subst hz; simpa using hx
            | succ j =>
              have := h4 j z (by simpa using hz)
              simp at this
              omega
          · intro X m I μ a w hX hs j z hz
            cases j with
            | zero =>
              simp at hz
              subst hz
              have hev := hs.evT e x.2
              rw [hX] at hev
              obtain ⟨k7, k8⟩ := he (pure_rep hy hev)
              exact ⟨by simpa using hc, k7, by simpa using k8⟩
            | succ j => simpa using h5 hX hs j z (by simpa using hz)
        · cases h
    · simp [hx] at h
theorem handed_congr {h h' : List (Nat × Ob)} {ks : List Nat} : ∀ {l : List Nat}, (∀ r, r ∈ l → look h r = look h' r) → handed h ks l = handed h' ks l
  | [], _ => rfl
  | r :: l, hl => by
    simp only [handed]
    rw [hl r (by simp), handed_congr fun q hq => hl q (by simp [hq])]
theorem callRec_inv {o : Oper} {d : Nat} {s : St} {f : Operand} {args : Array Operand} {ts : Array TypeId} {g : FuncId} {rs : List Nat} {F : List GV → List (Nat × Ob) → (GV → List (Nat × Ob) → Option R) → Option R} {K : GV → Delta → Option R} (hE : EnvOk P E tB)
    (ho : o.op = .call { callee := .value f, args := args, argTypes := ts }) (hf : s.ev f = .c (.fn g rs)) (hen : Enters P g) (hsz : ts.size = args.size)
    (hF : ∀ args H K r, F args H K = some r → ∃ v H', K v H' = some r ∧ HeapFn P E tB W0 g args H v H') (h : callRec E d s (wArgs E s (ts.toList.zip args.toList) ++ ptrs rs) F K = some r) :
    ∃ v D, K v D = some r ∧ ∀ S, Sub S s → OpDoes P E tB W0 o S v (D.app S) := by
  unfold callRec at h
  simp only at h
  generalize hks : reach s.h 100 ((wArgs E s (ts.toList.zip args.toList) ++ ptrs rs).flatMap GV.keys) [] = ks at h
  cases hc : Nat.blt ks.length 1000 && (keysIn ks ((wArgs E s (ts.toList.zip args.toList) ++ ptrs rs).flatMap GV.keys) && ks.all (hasOb s.h ks))
  · rw [hc] at h; exact absurd h (by simp)
  · simp only [hc, cond_true] at h
    simp only [Bool.and_eq_true, Nat.blt_eq] at hc
    obtain ⟨c1, c2, c3⟩ := hc
    obtain ⟨v, H, h, hfn⟩ := hF _ _ _ _ h
    cases hc2 : distinct (H.map fun x => back d ks x.1) && (keysIn (H.map fun x => x.1) v.keys && (H.all (fun x => keysIn (H.map fun x => x.1) x.2.keys) && H.all fun x => oldKey ks x.1 || !isIn ks (back d ks x.1)))
    · rw [hc2] at h; exact absurd h (by simp)
    · simp only [hc2, cond_true] at h
      simp only [Bool.and_eq_true] at hc2
      obtain ⟨d1, d2, d3, d4⟩ := hc2
      cases hok : plain E s.h ks H
      · rw [hok] at h; exact absurd h (by simp)
      · simp only [hok, cond_true] at h
        have hin : ∀ k, k ∈ ks → ∃ ob, look s.h k = some ob ∧ ∀ j, j ∈ ob.keys → j ∈ ks := by
          intro k hk
          have := (List.all_eq_true.1 c3) k hk
          unfold hasOb at this
          split at this
          · rename_i ob hob
            exact ⟨ob, hob, keysIn_iff.1 this⟩
          · cases this
        refine ⟨_, _, h, fun S hS => ?_⟩
        have hlook : ∀ k, k ∈ ks → look (footH s.h ks ++ S.h) k = look s.h k := by
          intro k hk
          obtain ⟨ob, hob, _⟩ := hin k hk
          rw [look_append, look_footH hk, hob]
          rfl
        have hhand : handed (footH s.h ks ++ S.h) ks ks = handed s.h ks ks := handed_congr hlook
        have hrow : ks.filter (rowAt (footH s.h ks ++ S.h)) = ks.filter (rowAt s.h) := by
          apply List.filter_congr
          intro k hk
          unfold rowAt
          rw [hlook k hk]
        have hok' : plain E (footH s.h ks ++ S.h) ks H = true := by
          refine List.all_eq_true.2 fun x hx => ?_
          have := (List.all_eq_true.1 hok) x hx
          simp only [sameBld] at this ⊢
          cases hold : oldKey ks x.1
          · simpa [hold] using this
          · rw [hlook _ (oldKey_mem hold)]
            simpa [hold] using this
        obtain ⟨st1, hst1⟩ : ∃ st1, st1 = strikeAll ((H.filter fun x => !oldKey ks x.1).map (fun x => back d ks x.1) ++ ks.filter (rowAt (footH s.h ks ++ S.h))) { t := S.t, h := dropAll ks (footH s.h ks ++ S.h) } := ⟨_, rfl⟩
        have hop : OpDoes P E tB W0 o S (v.map (CV.ren (back d ks))) { st1 with h := (H.map fun x => (back d ks x.1, x.2.map (CV.ren (back d ks)))) ++ st1.h } := by
          intro X n I μ a w hX hB hW hr hs
          have hs' := hs.sub (hS.overs ks)
          have hss := hs.sub hS
          have hfv := hss.ev f
          rw [hf] at hfv
          obtain ⟨cap, e1, e2, e3⟩ := hfv
          subst hX hB hW
          have hla : (wArgs X.E s (ts.toList.zip args.toList)).length = args.size := by rw [wArgs_length]; simp [hsz]
          refine heapCall hE hr hs' (run_call ho e1 hen) ?_ ?_ c1 (keysIn_iff.1 c2) ?_ (by rw [hhand]; exact hfn) d1 (keysIn_iff.1 d2) ?_ ?_ st1 hst1 (.inr hok')
          · simp only [Array.size_append, Array.size_map, List.length_append, hla, ptrs, List.length_map, e2]
          · intro i hi
            simp only [List.length_append, hla, ptrs, List.length_map] at hi
            by_cases hlt : i < args.size
            · have := hss.args ts args hsz i hlt
              have g1 : (wArgs X.E s (ts.toList.zip args.toList) ++ ptrs rs).getD i .any = (wArgs X.E s (ts.toList.zip args.toList)).getD i .any := by
                simp only [List.getD_eq_getElem?_getD, List.getElem?_append_left (show i < (wArgs X.E s (ts.toList.zip args.toList)).length by omega)]
              have g2 : (args.map a.eval ++ cap).getD i undef = (args.map a.eval).getD i undef := by
                rw [agetD, agetD, Array.toList_append]
                simp only [List.getD_eq_getElem?_getD]
                rw [List.getElem?_append_left (by simpa using hlt)]
              rw [g1, g2]
              exact this
            · have hj : i - args.size < rs.length := by omega
              have g1 : (wArgs X.E s (ts.toList.zip args.toList) ++ ptrs rs).getD i .any = .c (.ptr rs[i - args.size] 0) := by
                simp only [List.getD_eq_getElem?_getD]
                rw [List.getElem?_append_right (by omega), hla]
                simp [ptrs, hj]
              have g2 : (args.map a.eval ++ cap).getD i undef = cap.getD (i - args.size) undef := by
                rw [agetD, agetD, Array.toList_append]
                simp only [List.getD_eq_getElem?_getD]
                rw [List.getElem?_append_right (by simp; omega)]
                simp
              rw [g1, g2]
              exact e3 (i - args.size) _ (by simp [hj])
          · intro k hk
            obtain ⟨ob, hob, hcl⟩ := hin k hk
            exact ⟨ob, (hlook k hk).trans hob, hcl⟩
          · intro x hx
            exact keysIn_iff.1 ((List.all_eq_true.1 d3) x hx)
          · intro x hx
            have := (List.all_eq_true.1 d4) x hx
            simp only [Bool.or_eq_true, Bool.not_eq_true'] at this
            rcases this with e | e
            · exact .inl e
            · exact .inr fun hm => by rw [isIn_iff.2 hm] at e; cases e
        refine @OpDoes.eqv _ _ _ _ _ _ _ _ _ hop ?_
        · rw [hst1, hrow]
          refine ⟨fun i => ?_, fun q => ?_⟩
          · rw [Delta.look_t]
            simp only [look_strikeAll_t]
          · rw [Delta.look_h]
            simp only [look_append, look_strikeAll_h, look_dropAll']
            congr 1
            by_cases h1 : q ∈ ks
            · simp [h1]
            · have hno : ∀ (l : List Nat), q ∉ l → look (footH s.h l) q = none := by
                intro l
                induction l with
                | nil => intro _; rfl
                | cons y l ih =>
                  intro hn
                  simp only [List.mem_cons, not_or] at hn
                  simp only [footH]
                  split
                  · rw [look_cons, if_neg hn.1]; exact ih hn.2
                  · exact ih hn.2
              rw [hno ks h1]
              simp only [h1, if_false, or_false, Option.none_or]
theorem evRec_inv (hE : EnvOk P E tB) {ρ : FuncId → Option (Callee R)} (hρ : RhoOk P E tB W0 ρ) {o : Oper} (hd : ∀ d, o.dst = some d → d < 1000) {s : St} {K : GV → Delta → Option R} (h : evRec E ρ o s K = some r) :
    ∃ v D, K v D = some r ∧ ∀ S, Sub S s → OpDoes P E tB W0 o S v (D.app S) := by
  have hd0 : o.dst.getD 0 < 1000 := by
    cases hod : o.dst with
    | none => simp
    | some d => exact hd d hod
  have hnil : ∀ S : St, Eqv S (Delta.none.app S) := fun S => ⟨fun i => by rw [Delta.look_t]; cases look S.t i <;> rfl, fun q => by rw [Delta.look_h]; simp only [Delta.none, look, Option.none_or, List.not_mem_nil, or_self, if_false]; cases look S.h q <;> rfl⟩
  have calm : evCalm E ρ o s (fun v => K v .none) = some r → ∃ v D, K v D = some r ∧ ∀ S, Sub S s → OpDoes P E tB W0 o S v (D.app S) := by
    intro h
    obtain ⟨v, h1, h2⟩ := evCalm_inv hE hρ h
    exact ⟨v, .none, h1, fun S hS => OpDoes.eqv (CalmF.at h2 fun hs => hs.sub hS) (hnil S)⟩
  unfold evRec at h
  simp only at h
  split at h
  · rename_i x ho
    split at h
    · rename_i c hx
      split at h
      · rename_i e ht
        rw [nbeq] at h
        by_cases he : e = E.tb
        · simp [he] at h
        · simp only [he, decide_false, cond_false] at h
          refine ⟨_, _, h, fun S hS => OpDoes.eqv (row_does (st' := S) hd0 (e := e) (es := []) ?_ fun {X n I μ a w} hX hr hs => ?_) (eqv_new _ _ S)⟩
          · simp [okNew, Ob.isBld, Ob.isByte, nbeq, he]
          · have h1 := (hs.sub hS).evT o.type x
            rw [hX, hx] at h1
            have h2 : a.eval x = .slice none 0 0 := h1
            exact ⟨I, _, w, [], NewI.refl X I, hs, ⟨rfl, rfl, rfl, Nat.le_refl _, fun _ _ _ => rfl⟩, by simp only [execOp, ho, Sem.run_pure, h2], World.ownsRow_nil w X.B e (E.sz e), fun i hi => by simp at hi, fun b hb => by simp [Value.ownBlock] at hb⟩
      · cases h
    · refine ⟨_, .none, h, fun S hS => OpDoes.eqv (CalmF.at (ValDoes.f (run := fun a => pure (a.eval x)) (fun {X n I μ a w} hX hr hs => ⟨_, Sem.run_pure .., hX ▸ hs.evT o.type x⟩) fun a w y hy => ?_) fun hs => hs.sub hS) (hnil S)⟩
      simp only [Sem.run_pure, Result.ok.injEq, and_true] at hy
      simp only [execOp, ho, Sem.run_pure, hy]
  · rename_i t ho
    cases hc : !Nat.beq t E.tb && (isStruct (E.ty t) || isScalar (E.ty t))
    · rw [hc] at h; exact absurd h (by simp)
    · simp only [hc, cond_true] at h
      simp only [Bool.and_eq_true, nbeq, Bool.not_eq_true', decide_eq_false_iff_not, Bool.or_eq_true] at hc
      obtain ⟨i, z, h1, h2, h3, _, _⟩ := hE.zero t hc.2
      refine ⟨_, _, h, fun S hS => OpDoes.eqv (box_does hd0 (T := t) hc.1 (fun v hv hk => by rw [zeroOf_keys _ _ v hv] at hk; cases hk) fun {X n I μ a w} hX hr hs => ⟨z.cells, h3 I μ, ?_⟩) (eqv_new _ _ S)⟩
      simp only [execOp, ho]
      exact run_value (by simp [Instr.alloc, run_zero h1 h2, run_newVar'])
  · rename_i t x ho
    cases hc : !Nat.beq t E.tb
    · rw [hc] at h; exact absurd h (by simp)
    · simp only [hc, cond_true] at h
      simp only [nbeq, Bool.not_eq_true', decide_eq_false_iff_not] at hc
      obtain ⟨cs, h, _, _, hk, hrep⟩ := wCells_inv hE h
      cases hin : isIn (cs.flatMap CV.keys) (o.dst.getD 0)
      · simp only [hin, cond_false] at h
        have hno : ∀ v, v ∈ cs → o.dst.getD 0 ∉ v.keys := fun v hv hd => by
          rw [isIn_iff.2 (List.mem_flatMap.2 ⟨v, hv, hd⟩)] at hin
          cases hin
        refine ⟨_, _, h, fun S hS => OpDoes.eqv (box_does hd0 (T := t) hc hno fun {X n I μ a w} hX hr hs => ?_) (eqv_new _ _ S)⟩
        have h1 := (hs.sub hS).evT t x
        rw [hX] at h1
        refine ⟨_, (hrep hr h1).1, ?_⟩
        simp only [execOp, ho]
        exact run_value (by simp [Instr.box, run_newVar'])
      · rw [hin] at h; exact absurd h (by simp)
  · rename_i t len parts ho
    split at h
    · rename_i e ht
      cases hb : Nat.ble (len * E.sz e) 16777216 && !Nat.beq e E.tb
      · rw [hb] at h; exact absurd h (by simp)
      · simp only [hb, cond_true] at h
        simp only [Bool.and_eq_true, Bool.not_eq_true', nbeq, decide_eq_false_iff_not] at hb
        have hle := Nat.le_of_ble_eq_true hb.1
        obtain ⟨es, h, hl, hpl, hidx, hrep⟩ := wParts0_inv hE h
        simp only [List.reverse_nil, List.nil_append] at h
        refine ⟨_, _, h, fun S hS => OpDoes.eqv (row_does (st' := S) hd0 (e := e) (es := es) ?_ fun {X n I μ a w} hX hr hs => ?_) (eqv_new _ _ S)⟩
        · simp [okNew, Ob.isBld, Ob.isByte, nbeq, hb.2]
        · obtain ⟨v, w', xs, m1, m2, m3, m4, m5⟩ := buildSlice_run (B := X.B) hE ho ht hle hl hpl hidx hs.bw (hrep hX (hs.sub hS))
          exact ⟨I, v, w', xs, NewI.refl X I, hs, m1, m2, m3, m4, m5⟩
    · cases h
  · rename_i t ad x ho
    split at h
    · rename_i q off hq
      split at h
      · rename_i cs hol
        obtain ⟨xs, h, hxl, hk, _, hrep⟩ := wCells_inv hE h
        cases hb : Nat.ble (off + xs.length) cs.length
        · rw [hb] at h; exact absurd h (by simp)
        · simp only [hb, cond_true] at h
          have hle := Nat.le_of_ble_eq_true hb
          refine ⟨_, _, h, fun S hS => OpDoes.eqv (S1 := setOb q (.box (splice cs off xs)) { S with h := (q, .box cs) :: S.h }) (fun {X n I μ a w} hX hB hW hr hs => ?_) (eqv_set q _ _ S)⟩
          have hs' := hs.sub (hS.over hol)
          have hss := hs.sub hS
          have hy := hss.ev ad
          rw [hq] at hy
          have hol' : look ((q, Ob.box cs) :: S.h) q = some (.box cs) := by rw [look_cons, if_pos rfl]
          obtain ⟨b, arr, T, h1, h2, h3, h4, h5⟩ := hs'.h.ok q _ hol'
          have hev := hss.evT t x
          rw [hX] at hev
          obtain ⟨k1, k2⟩ := hrep hr hev
          obtain ⟨inf, i1, i2⟩ := hE.info hk
          rcases hy with ⟨b', h6, hy⟩ | ⟨b', bs, h6, _⟩
          · rw [h1] at h6; injection h6 with h6; injection h6 with h6; subst h6
            have hl1 := h5.1
            have hl2 := k1.1
            have hst := run_storeAt' (P := P) (t := t) i1 (v := a.eval x) (by omega) h3 (o := off) (by simp at hl1 hl2; omega) (repCs_one k1)
            refine Upon.of_skip (w' := w.setRow b (splice arr.toList off (a.eval x).cells.toList).toArray) ?_ ⟨I, μ, NewI.refl X I, ⟨hr, Keep.refl μ⟩, ?_, RepG.any _ _ _⟩
            · simp only [execOp, ho, hy, Sem.run_bind, hst, Result.andThen_ok, Sem.run_pure]
            · exact hs'.setOb hol' h1 rfl (.inl ⟨arr, T, (0, 0), h3, h4⟩) rfl rfl rfl ⟨b, _, T, h1, h2, setRow_heap w b arr _ T _ h3, h4, by simpa using h5.splice k1 off hle⟩
          · rw [h1] at h6; injection h6 with h6; cases h6
      · cases h
    · cases h
  · rename_i args ts ho
    cases hsz : Nat.beq ts.size 2 && Nat.beq args.size 2
    · rw [hsz] at h; exact absurd h (by simp)
    · simp only [hsz, cond_true] at h
      simp only [Bool.and_eq_true, nbeq, decide_eq_true_eq] at hsz
      split at h
      · rename_i e ht hbt
        have hbt' : ts.getD 0 0 = ts.getD 1 0 := Nat.eq_of_beq_eq_true hbt
        have hrun : ∀ (a : Act) (w w' : World) (v y v' : Value), a.eval (args.getD 0 (.const .nilIface)) = v → a.eval (args.getD 1 (.const .nilIface)) = y → (Builtin.append_ #[ts.getD 0 0, ts.getD 0 0] o.type #[v, y]).run P w = .ok v' w' →
            (execOp a.eval o).run P w = .ok (.value v') w' := by
          intro a w w' v y v' hv hy hr
          rw [run_builtin ho, two_types hsz.1, two_args hsz.2, hv, hy, ← hbt']
          exact run_value hr
        rw [nbeq] at h
        by_cases he : e = E.tb
        · simp [he] at h
        · simp only [he, decide_false, cond_false] at h
          obtain ⟨fs, h, hw⟩ := wSl_inv h
          have hpos : 0 < E.sz e := by
            obtain ⟨_, _, _, _, _, _, _, hp, _⟩ := hE.slice _ e ht
            exact hp
          split at h
          · rename_i q hq
            split at h
            · rename_i e' es hol
              cases hc : Nat.beq e' e && decide (es.length + fs.length ≤ LIM)
              · rw [hc] at h; exact absurd h (by simp)
              · simp only [hc, cond_true] at h
                simp only [Bool.and_eq_true, nbeq, decide_eq_true_eq] at hc
                obtain ⟨rfl, hlim⟩ := hc
                refine ⟨_, _, h, fun S hS => OpDoes.eqv (fun {X n I μ a w} hX hB hW hr hs => ?_) (eqv_move q (.row e' es) _ S)⟩
                subst hX
                have hs' := hs.sub (hS.over hol)
                have hss := hs.sub hS
                have hv := hss.evT (ts.getD 0 0) (args.getD 0 (.const .nilIface))
                rw [hq] at hv
                have hol' : look ((q, Ob.row e' es) :: S.h) q = some (.row e' es) := by rw [look_cons, if_pos rfl]
                obtain ⟨v', w', k1, k2, k3⟩ := append_own (X := X) hE o.type ht hr hs' hol' hv (hw rfl hpos hss (hss.evT _ _)) hlim
                exact Upon.of_run (hrun a w w' _ _ v' rfl rfl k1) ⟨I, _, NewI.refl X I, k2, k3, ⟨_, upd_same μ q _⟩⟩
            · cases h
          · rename_i c hq
            by_cases hlim : fs.length ≤ LIM
            · simp only [hlim, decide_true, cond_true] at h
              refine ⟨_, _, h, fun S hS => OpDoes.eqv (row_does (st' := S) hd0 (e := e) (es := fs) ?_ fun {X n I μ a w} hX hr hs => ?_) (eqv_new _ _ S)⟩
              · simp [okNew, Ob.isBld, Ob.isByte, nbeq, he]
              · have hss := hs.sub hS
                have hv := hss.evT (ts.getD 0 0) (args.getD 0 (.const .nilIface))
                rw [hX, hq] at hv
                have hv' : a.eval (args.getD 0 (.const .nilIface)) = .slice none 0 0 := hv
                have hy := hss.evT (ts.getD 1 0) (args.getD 1 (.const .nilIface))
                rw [hX] at hy
                obtain ⟨v', w', zs, k1, k2, k3, k4, k5⟩ := run_app (X := X) (I := I) (es := []) hE ht o.type (World.ownsRow_nil w X.B e (E.sz e)) (RowRep.nil _ _ _) (hw hX hpos hss hy) (by simpa using hlim) hs.bw
                refine ⟨I, v', w', zs, NewI.refl X I, hs, k4, hrun a w w' _ _ v' hv' rfl k1, k2, k3, fun b hb => ?_⟩
                rcases k5 with z | z
                · rw [z] at hb
                  simp [Value.ownBlock] at hb
                · rw [z] at hb
                  injection hb with hb
                  omega
            · simp [hlim] at h
          · cases h
      · cases h
  · rename_i f args ts ho
    split at h
    · rename_i g rs hf
      split at h
      · rename_i F hg
        obtain ⟨hen, hp⟩ := hρ g _ hg
        rw [nbeq] at h
        by_cases hsz : ts.size = args.size
        · simp only [hsz, decide_true, cond_true] at h
          exact callRec_inv hE ho hf hen hsz hp h
        · simp [hsz] at h
      · exact calm h
    · cases h
  · exact calm h
end
end Go.Dip
end
