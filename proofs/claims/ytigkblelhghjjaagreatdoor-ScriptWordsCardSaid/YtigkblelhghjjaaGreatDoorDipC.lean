/- Joined by program out of: CoreOps, Core22, Core23, Core24, Core25, CoreEq, Core26, Core27, Core28. -/
import Derived.Test.YtigkblelhghjjaaGreatDoorDipB
import Derived.MapKept
import Derived.Laws.OwnMore
import Derived.Maps.RangeRun
import Derived.Orders
import Derived.LoopN
import Derived.Scope
set_option linter.all false
/- An ideal semantics of the model's code: operations that open cells, and on maps. -/
section
set_option linter.unusedVariables false
set_option linter.unusedSimpArgs false
namespace Go.Dip
section
variable {R : Type} {r : R} {P : Program} {E : Env} {tB : TypeId} {W0 : World}

theorem Sim.foldRow {X : Cx} {n : Nat} {I : Mem} {μ : Locs} {st : St} {a : Act} {w : World} (h : Sim X n I μ st a w) (r : Nat) : Sim X n I μ (st.foldRow X.E r) a w := by
  unfold St.foldRow
  split
  · exact h.foldAt r 0
  · exact h.foldAt r 0
  · exact h
theorem Sim.foldAll {X : Cx} {n : Nat} {I : Mem} {μ : Locs} {a : Act} {w : World} : ∀ (rs : List Nat) {st : St}, Sim X n I μ st a w → Sim X n I μ (st.foldAll X.E rs) a w
  | [], _, h => h
  | r :: rs, _, h => Sim.foldAll rs (h.foldRow r)

theorem CV.strike_not (d : Nat) (v : CV) : d ∉ (v.strike d).keys := (CV.strike_keys d v).1
/-- Cells that say nothing of d. -/
theorem RepO.noD {X : Cx} {I : Mem} {μ : Locs} {w : World} {cs : List CV} {vs : List Value} {bs : List Nat} (h : RepO X I μ w cs vs bs) (d : Nat) : RepO X I μ w (cs.map (CV.strike d)) vs bs := by
  obtain ⟨h1, bss, h2, h3, h4⟩ := h
  refine ⟨by simpa using h1, bss, h2, h3, fun i v hv => ?_⟩
  rw [List.getElem?_map] at hv
  obtain ⟨u, hu, rfl⟩ := Option.map_eq_some_iff.1 hv
  obtain ⟨k1, k2⟩ := h4 i u hu
  refine ⟨?_, k2⟩
  cases ho : u.isOwn with
  | true =>
    cases u with
    | own y => exact k1
    | _ => cases ho
  | false =>
    obtain ⟨m1, m2⟩ := (CellO.ref ho).1 k1
    rw [m2]
    exact CellO.of (m1.strike d)

theorem openBox {o : Oper} {d : Nat} (hE : EnvOk P E tB) (hd : d < 1000) {st : St} {t : TypeId} {ad : Operand} {q off : Nat} {cs : List CV} {v : PV} (ho : o.op = .load t ad) (ha : st.ev ad = .c (.ptr q off)) (hl : look st.h q = some (.box cs))
    (hv : cs[off]? = some (.own v)) (hw : isOwned v = true) (hs : isScalar (E.ty t) = true) (hne : q ≠ d) :
    OpDoes P E tB W0 o st (.c (openRef d v)) (st.openAt q d v (.box ((cs.map (CV.strike d)).set off (openRef d v)))) := by
  intro X n I μ a w hX hB hW hr hsim
  obtain ⟨β, hβ⟩ := hsim.h
  obtain ⟨b, arr, T, is, e1, h1, h2, h3, h4, h5⟩ := hβ.ok q _ hl
  have hx := hsim.ev ad
  rw [ha] at hx
  have hx' : a.eval ad = .pointer (some ⟨b, off, none⟩) := by
    rcases hx with ⟨b', h6, h7⟩ | ⟨b', h6, _⟩
    · rw [h1] at h6; injection h6 with h6; injection h6 with h6; subst h6; exact h7
    · rw [h1] at h6
      rcases h6 with ⟨_, h6⟩ | h6 <;> (injection h6 with h6; cases h6)
  have hlt : off < arr.toList.length := by rw [← h5.1]; exact (List.getElem?_eq_some_iff.1 hv).1
  have hv' : (cs.map (CV.strike d))[off]? = some (.own v) := by rw [List.getElem?_map, hv]; rfl
  obtain ⟨bl, bs', k1, k2, k3⟩ := (h5.noD d).take hv'
  have hrun : (execOp a.eval o).run P w = .ok (.value (arr.toList.getD off undef)) w := by
    simp only [execOp, ho]
    refine run_value ?_
    show (Instr.loadAt t (a.eval ad)).run P w = _
    rw [hx', run_loadAt]
    exact run_loadVar_s hE hs (cell_heap h3 (by rw [getD_lt hlt]; simp))
  obtain ⟨ν, ⟨n1, n2⟩, n3, n4⟩ := hsim.openAt (d := d) (o' := .box ((cs.map (CV.strike d)).set off (openRef d v))) (bs := b :: bs') hr hβ hd hl hne k1 hw (by rw [e1]; exact k2.cons b) (fun ν hν hrep => by
    have hk : ∀ c, c ∈ cs.map (CV.strike d) → ∀ k, k ∈ c.keys → ν k = μ k := fun c hc k hk => by
      obtain ⟨c0, _, rfl⟩ := List.mem_map.1 hc
      refine hν k fun e => ?_
      subst e
      exact CV.strike_not k c0 hk
    exact ⟨b, arr, T, bs', rfl, (hν q hne).trans h1, h2, h3, h4, k3 ν _ hk hrep⟩) rfl rfl
  exact Upon.of_run hrun ⟨I, ν, NewI.refl X I, ⟨n1, n2⟩, n4, n3⟩

theorem dcells_none_keys {c : Nat} {es : List PV} : ∀ u, u ∈ dcells c es none → u.keys = [] := by
  intro u hu
  unfold dcells at hu
  rw [List.mem_flatMap] at hu
  obtain ⟨i, _, hu⟩ := hu
  unfold delem at hu
  obtain ⟨j, _, rfl⟩ := List.mem_map.1 hu
  rfl
theorem pointE {I : Mem} {μ : Locs} {q off : Nat} {i : Int} {x v : Value} {c : Nat} {w : World} {B e : Nat} {xs : List Value} {n : Nat} (h : RepC I μ (.ptrE q i off) x) (h1 : μ q = some (.row v c)) (h2 : w.ownsRow B e c v n xs) :
    ∃ g cap, v = .slice (some ⟨g, 0, none⟩) n cap ∧ i.toNat < n ∧ x = .pointer (some ⟨g, i.toNat * c + off, none⟩) := by
  obtain ⟨g, m, cap, c', h4, h0, hi, rfl⟩ := h
  rw [h1] at h4
  injection h4 with h4
  injection h4 with h4 h4'
  subst h4 h4'
  have hm : n = m := by
    rcases h2.2 with ⟨hh, _⟩ | ⟨g', cap', cur, hh, _⟩
    · cases hh
    · injection hh with _ hh _; exact hh.symm
  subst hm
  exact ⟨g, cap, rfl, by omega, rfl⟩
/-- A cell of a row is opened as the object d. -/
theorem Sim.openDeep {X : Cx} {n : Nat} {I : Mem} {μ : Locs} {st : St} {a : Act} {w : World} (h : Sim X n I μ st a w) (hr : RowsOk μ) {q d : Nat} (hd : d < 1000) {e : TypeId} {es : List PV} {i off : Nat} (hl : look st.h q = some (.deep e es none)) (hne : q ≠ d)
    (hi : i < es.length) (ho : off < X.E.sz e) (hw : isOwned (pcell (es.getD i .any) off) = true) :
    ∃ x ν, (RowsOk ν ∧ Keep μ ν) ∧ RepC I ν (openRef d (pcell (es.getD i .any) off)) x ∧ Sim X n I ν (st.openAt q d (pcell (es.getD i .any) off) (.deep e es (some (i, off, openRef d (pcell (es.getD i .any) off))))) a w ∧
      ∀ (j : Int) ad, j.toNat = i → RepC I μ (.ptrE q j off) ad → ∃ b p, ad = .pointer (some ⟨b, p, none⟩) ∧ w.cell? ⟨b, p, none⟩ = some x := by
  obtain ⟨β, hβ⟩ := h.h
  obtain ⟨v, xs, is, e1, h1, h2, h3, h4, h5⟩ := hβ.ok q _ hl
  have hv : (dcells (X.E.sz e) es none)[i * X.E.sz e + off]? = some (.own (pcell (es.getD i .any) off)) := by rw [dcells_get hi ho]; rfl
  obtain ⟨bl, bs', k1, k2, k3⟩ := h5.take hv
  have hlt : i * X.E.sz e + off < es.length * X.E.sz e := by
    have := Nat.mul_le_mul_right (X.E.sz e) (show i + 1 ≤ es.length by omega)
    rw [Nat.add_mul] at this
    omega
  obtain ⟨ν, n12, n3, n4⟩ := h.openAt (d := d) (o' := .deep e es (some (i, off, openRef d (pcell (es.getD i .any) off)))) (bs := v.ownBlock.toList ++ bs') hr hβ hd hl hne k1 hw (by rw [e1, List.append_assoc]; exact k2.append_left _) (fun ν hν hrep => by
    refine ⟨v, xs, bs', rfl, (hν q hne).trans h1, h2, h3, h4, ?_⟩
    rw [← dcells_open hi ho]
    refine k3 ν _ (fun c hc k hk => ?_) hrep
    rw [dcells_none_keys c hc] at hk
    cases hk) rfl (by simp [Ob.isByte])
  refine ⟨_, ν, n12, n3, n4, fun j ad hj had => ?_⟩
  obtain ⟨g, cap, rfl, _, rfl⟩ := pointE had h1 h3
  subst hj
  exact ⟨_, _, rfl, row_cell h3 hlt⟩
theorem openDeep {o : Oper} {d : Nat} (hE : EnvOk P E tB) (hd : d < 1000) {st : St} {t : TypeId} {ad : Operand} {q off : Nat} {i : Int} {e : TypeId} {es : List PV} (ho : o.op = .load t ad) (ha : st.ev ad = .c (.ptrE q i off)) (hl : look (st.foldAt E q 0).h q = some (.deep e es none))
    (hw : isOwned (pcell (es.getD i.toNat .any) off) = true) (hs : isScalar (E.ty t) = true) (hne : q ≠ d) (hi : i.toNat < es.length) (hoff : off < E.sz e) :
    OpDoes P E tB W0 o st (.c (openRef d (pcell (es.getD i.toNat .any) off))) ((st.foldAt E q 0).openAt q d (pcell (es.getD i.toNat .any) off) (.deep e es (some (i.toNat, off, openRef d (pcell (es.getD i.toNat .any) off))))) := by
  intro X n I μ a w hX hB hW hr hsim
  have hx := hsim.ev ad
  rw [ha] at hx
  subst hX
  obtain ⟨x, ν, n12, n3, n4, n5⟩ := (hsim.foldAt q 0).openDeep hr hd hl hne hi hoff hw
  obtain ⟨b, p, hp, hc⟩ := n5 i _ rfl hx
  refine Upon.of_run (v := x) ?_ ⟨I, ν, NewI.refl X I, n12, n4, n3⟩
  simp only [execOp, ho]
  refine run_value ?_
  show (Instr.loadAt t (a.eval ad)).run P w = _
  rw [hp, run_loadAt]
  exact run_loadVar_s hE hs hc
theorem openLoad_inv {o : Oper} {d : Nat} (hE : EnvOk P E tB) (hd : d < 1000) {st : St} {t : TypeId} {ad : Operand} {x : CV × St} (ho : o.op = .load t ad) (h : openLoad E d st t (st.ev ad) = some x) : OpDoes P E tB W0 o st (.c x.1) x.2 := by
  unfold openLoad at h
  split at h
  · rename_i q off ha
    split at h
    · rename_i cs hl
      split at h
      · rename_i v hv
        cases hw : isOwned v
        · simp [hw] at h
        · cases hs : isScalar (E.ty t) && !Nat.beq q d
          · simp [hw, hs] at h
          · simp only [hw, hs, Bool.and_self, cond_true, Option.some.injEq] at h
            subst h
            simp only [Bool.and_eq_true, Bool.not_eq_true', nbeq, decide_eq_false_iff_not] at hs
            exact openBox hE hd ho ha hl hv hw hs.1 hs.2
      · cases h
    · cases h
  · rename_i q i off ha
    split at h
    · rename_i e0 es0 ho0 hl0
      split at h
      · rename_i v0 hv0
        cases hw0 : isOwned v0
        · simp [hw0] at h
        · simp only [hw0, cond_true] at h
          split at h
          · rename_i e es hl
            cases hc : isOwned (pcell (es.getD i.toNat .any) off) && (isScalar (E.ty t) && (!Nat.beq q d && (Nat.blt i.toNat es.length && Nat.blt off (E.sz e))))
            · rw [hc] at h; simp at h
            · rw [hc] at h
              simp only [cond_true, Option.some.injEq] at h
              subst h
              simp only [Bool.and_eq_true, Bool.not_eq_true', nbeq, decide_eq_false_iff_not, Nat.blt_eq] at hc
              exact openDeep hE hd ho ha hl hc.1 hc.2.1 hc.2.2.1 hc.2.2.2.1 hc.2.2.2.2
          · cases h
      · cases h
    · cases h
  · cases h

/-! ### Maps. -/
theorem keyFits_key (hE : EnvOk P E tB) {kt : TypeId} {a : PV} (ha : keyFits (E.ty kt) a = true) : ∃ desc, P.underlying kt = some desc ∧ isKey a = true ∧ ∀ (I : Mem) x, RepP I a x → MapKept.IsKey desc x := by
  unfold keyFits at ha
  split at ha
  · rename_i k l n ht
    have e : l = k := by simpa using ha
    subst e
    exact ⟨_, hE.int kt _ ht, rfl, fun I x hx => by cases hx; simp [MapKept.IsKey]⟩
  · rename_i s ht
    exact ⟨_, hE.str kt ht, rfl, fun I x hx => by cases hx; simp [MapKept.IsKey]⟩
  · rename_i s ht
    exact ⟨_, hE.bool kt ht, rfl, fun I x hx => by cases hx; simp [MapKept.IsKey]⟩
  · cases ha
theorem sameKey_rep {a b : PV} {I J : Mem} {x y : Value} (ha : isKey a = true) (hb : isKey b = true) (hx : RepP I a x) (hy : RepP J b y) : sameKey a b = true ↔ x = y := by
  constructor
  · intro h
    have e := sameKey_eq h
    subst e
    cases a <;> simp [isKey] at ha <;> cases hx <;> cases hy <;> rfl
  · intro e
    cases a <;> simp [isKey] at ha <;> cases b <;> simp [isKey] at hb <;> cases hx <;> cases hy <;> simp_all [sameKey]
theorem sameNow_fit (hE : EnvOk P E tB) {kt : TypeId} {a b : PV} {I : Mem} {x y : Value} (ha : keyFits (E.ty kt) a = true) (hb : keyFits (E.ty kt) b = true) (hx : RepP I a x) (hy : RepP I b y) :
    ∃ desc, P.underlying kt = some desc ∧ Instr.sameNow desc x y = some (sameKey a b) := by
  obtain ⟨d, h1, h2, h3⟩ := keyFits_key hE ha
  obtain ⟨d', h1', h2', h3'⟩ := keyFits_key hE hb
  rw [h1] at h1'
  injection h1' with h1'
  subst h1'
  obtain ⟨r, k1, k2⟩ := MapKept.sameNow_of_keys (h3 _ _ hx) (h3' _ _ hy)
  refine ⟨d, h1, ?_⟩
  rw [k1]
  congr 1
  have := sameKey_rep h2 h2' hx hy
  cases r <;> cases h : sameKey a b <;> simp_all
theorem keyFits_desc (hE : EnvOk P E tB) {kt : TypeId} {a : PV} (ha : keyFits (E.ty kt) a = true) : ∃ desc, P.underlying kt = some desc ∧ isKey a = true ∧ (∀ (I : Mem) x, RepP I a x → ∀ (w : World) em, (Instr.checkKey em 10000 kt x).run P w = .ok () w ∧ (Instr.keyThatStays x x).run P w = .ok x w) := by
  obtain ⟨d, h1, h2, h3⟩ := keyFits_key hE ha
  exact ⟨d, h1, h2, fun I x hx w em => ⟨MapKept.run_checkKey h1 (h3 I x hx) em 9999, MapKept.run_keyThatStays (h3 I x hx)⟩⟩
theorem findNow_run (hE : EnvOk P E tB) {kt : TypeId} {key : PV} {I : Mem} {x : Value} {desc : TypeDesc} (hu : P.underlying kt = some desc) (hk : keyFits (E.ty kt) key = true) (hx : RepP I key x) : ∀ (es : List MapEntry) (kvs : List (PV × PV)) (i : Nat), es.length = kvs.length →
    (∀ (j : Nat) e, es[j]? = some e → RepP I (kfst kvs j) e.key) → (kvs.all fun z => keyFits (E.ty kt) z.1) = true →
    (kfind key kvs i = none ∧ Instr.findNow desc x es i = some none ∧ ∀ z, z ∈ kvs → sameKey key z.1 = false) ∨
    ∃ j e k v, kfind key kvs i = some (i + j, v) ∧ es[j]? = some e ∧ kvs[j]? = some (k, v) ∧ sameKey key k = true ∧ Instr.findNow desc x es i = some (some (i + j, e.val))
  | [], [], i, _, _, _ => .inl ⟨rfl, rfl, fun z hz => by cases hz⟩
  | [], _ :: _, _, h, _, _ => by simp at h
  | _ :: _, [], _, h, _, _ => by simp at h
  | e :: es, z :: kvs, i, hl, hr, hf => by
    simp only [List.all_cons, Bool.and_eq_true] at hf
    have h0 : RepP I z.1 e.key := hr 0 e rfl
    obtain ⟨desc', hu', hs⟩ := sameNow_fit hE hk hf.1 hx h0
    rw [hu] at hu'
    injection hu' with hu'
    subst hu'
    simp only [kfind, Instr.findNow, hs]
    cases hsk : sameKey key z.1
    · simp only [cond_false]
      rcases findNow_run hE hu hk hx es kvs (i + 1) (by simpa using hl) (fun j e' he => by
        have := hr (j + 1) e' (by simpa using he)
        simpa [kfst] using this) hf.2 with ⟨h1, h2, h3⟩ | ⟨j, e', k, v, h1, h2, h3, h4, h5⟩
      · refine .inl ⟨h1, h2, fun y hy => ?_⟩
        rcases List.mem_cons.1 hy with rfl | hy
        · exact hsk
        · exact h3 y hy
      · exact .inr ⟨j + 1, e', k, v, by rw [h1]; congr 2; omega, by simpa using h2, by simpa using h3, h4, by rw [h5]; congr 3; omega⟩
    · simp only [cond_true]
      exact .inr ⟨0, e, z.1, z.2, rfl, rfl, rfl, hsk, rfl⟩
theorem find_run (hE : EnvOk P E tB) {t kt et : TypeId} {key : PV} {I : Mem} {x : Value} {kvs : List (PV × PV)} {es : Array MapEntry} (ht : E.ty t = .mapt kt et) (hk : keysFit E t key kvs = true) (hx : RepP I key x) (hl : es.size = kvs.length)
    (hr : ∀ (j : Nat) e, es[j]? = some e → RepP I (kfst kvs j) e.key) (w : World) :
    (kfind key kvs 0 = none ∧ (Instr.findKey kt x es.toList).run P w = .ok none w ∧ ∀ z, z ∈ kvs → sameKey key z.1 = false) ∨
    ∃ j e k v, kfind key kvs 0 = some (j, v) ∧ es[j]? = some e ∧ kvs[j]? = some (k, v) ∧ sameKey key k = true ∧ (Instr.findKey kt x es.toList).run P w = .ok (some (j, e.val)) w := by
  simp only [keysFit, ht, mapK, Bool.and_eq_true] at hk
  obtain ⟨desc, hu, _⟩ := keyFits_desc hE hk.1
  rcases findNow_run hE hu hk.1 hx es.toList kvs 0 (by simpa using hl) (fun j e he => hr j e (by simpa using he)) hk.2 with ⟨h1, h2, h3⟩ | ⟨j, e, k, v, h1, h2, h3, h4, h5⟩
  · exact .inl ⟨h1, by simp [Instr.findKey, run_underlying hu, h2], h3⟩
  · rw [Nat.zero_add] at h1 h5
    exact .inr ⟨j, e, k, v, h1, by simpa using h2, h3, h4, by simp [Instr.findKey, run_underlying hu, h5]⟩

theorem run_lookup_some {t kt et : TypeId} {b j clock : Nat} {x v : Value} {es : Array MapEntry} {w : World} (ok : Bool) (hu : P.underlying t = some (.map kt et)) (hb : w.heap[b]? = some (.map es clock)) (hc : ∀ em, (Instr.checkKey em 10000 kt x).run P w = .ok () w)
    (hf : (Instr.findKey kt x es.toList).run P w = .ok (some (j, v)) w) : (Instr.lookup t (.map (some b)) x ok).run P w = .ok (bif ok then .tuple #[v, .bool true] else v) w := by
  cases ok <;> simp [Instr.lookup, run_underlying hu, MapKept.run_getObj_map hb, hc, hf, Result.andThen]
theorem run_lookup_none {t kt et : TypeId} {b clock : Nat} {x z : Value} {es : Array MapEntry} {w : World} (ok : Bool) (hu : P.underlying t = some (.map kt et)) (hb : w.heap[b]? = some (.map es clock)) (hc : ∀ em, (Instr.checkKey em 10000 kt x).run P w = .ok () w)
    (hf : (Instr.findKey kt x es.toList).run P w = .ok none w) (hz : (zeroValue et).run P w = .ok z w) : (Instr.lookup t (.map (some b)) x ok).run P w = .ok (bif ok then .tuple #[z, .bool false] else z) w := by
  cases ok <;> simp [Instr.lookup, run_underlying hu, MapKept.run_getObj_map hb, hc, hf, hz, Result.andThen]
theorem wOk_inv {ok found : Bool} {v : CV} {K : GV → Option R} (h : wOk ok v found K = some r) : ∃ g, K g = some r ∧ ∀ {I : Mem} {μ : Locs} {x : Value}, RepC I μ v x → RepG I μ g (bif ok then .tuple #[x, .bool found] else x) := by
  unfold wOk at h
  cases ok with
  | true =>
    refine ⟨_, h, fun {I μ x} hx => ⟨#[x, .bool found], rfl, rfl, fun i u hu => ?_⟩⟩
    match i, hu with
    | 0, hu => simp only [List.getElem?_cons_zero, Option.some.injEq] at hu; subst hu; exact hx
    | 1, hu => simp only [List.getElem?_cons_succ, List.getElem?_cons_zero, Option.some.injEq] at hu; subst hu; exact RepP.bool _
    | i + 2, hu => simp at hu
  | false => exact ⟨_, h, fun {I μ x} hx => hx⟩
theorem zeroC_rep (hE : EnvOk P E tB) {et : TypeId} (hs : isScalar (E.ty et) = true) : ∃ z, (∀ w, (zeroValue et).run P w = .ok z w) ∧ ∀ I μ, RepC I μ (zeroC E et) z ∧ z.oneCell' = true ∧ z.cells = #[z] := by
  obtain ⟨i, z, hi, hz, hr, _, hl, h1⟩ := hE.zero et (.inr hs)
  have hcell := h1 hs
  refine ⟨z, run_zero hi hz, fun I μ => ?_⟩
  have hrep := hr I μ
  rw [hcell] at hrep
  unfold zeroC
  obtain ⟨c, hc⟩ : ∃ c, zeroOf E 6 et = [c] := by
    have h0 := hrep.1
    match hzz : zeroOf E 6 et, h0 with
    | [c], _ => exact ⟨c, rfl⟩
  rw [hc] at hrep ⊢
  have k3 := hrep.2 0 c rfl
  exact ⟨k3.1, k3.2, hcell⟩
/-- What a map's cell reads as. -/
theorem mcell_at {ho : Option (PV × CV)} {key k v : PV} (h : sameKey key k = true) : mcell (k, v) ho = evLookup.mcellAt ho key v := by
  have e := sameKey_eq h
  subst e
  unfold mcell evLookup.mcellAt
  rfl
/-- A map of the call's own: where it lies, and what is found. -/
theorem tab_at (hE : EnvOk P E tB) {X : Cx} {I : Mem} {μ : Locs} {w : World} {q b : Nat} {kvs : List (PV × PV)} {ho : Option (PV × CV)} {bs : List Nat} (h : ObB X I μ w q (.tab kvs ho) bs) (hb : μ q = some (.tab b)) {t kt et : TypeId} (ht : E.ty t = .mapt kt et) {key : PV} {x : Value} (hk : keysFit E t key kvs = true) (hx : RepP I key x) :
    ∃ es is, w.heap[b]? = some (.map es es.size) ∧ bs = b :: is ∧ RepO X I μ w (mcells kvs ho) (es.toList.map fun e => e.val) is ∧ es.size = kvs.length ∧
      ((kfind key kvs 0 = none ∧ (Instr.findKey kt x es.toList).run P w = .ok none w ∧ ∀ z, z ∈ kvs → sameKey key z.1 = false) ∨
        ∃ j e k v, kfind key kvs 0 = some (j, v) ∧ es[j]? = some e ∧ kvs[j]? = some (k, v) ∧ sameKey key k = true ∧ (Instr.findKey kt x es.toList).run P w = .ok (some (j, e.val)) w ∧ e.key = x ∧
          (mcells kvs ho)[j]? = some (evLookup.mcellAt ho key v)) := by
  obtain ⟨b', es, is, e1, h1, h2, h3, h4, h5, h6, h7⟩ := h
  rw [hb] at h1
  injection h1 with h1
  injection h1 with h1
  subst h1
  refine ⟨es, is, h3, e1, h7, h5.symm, ?_⟩
  rcases find_run hE ht hk hx h5.symm (fun j e he => (h4 j e he).2.2) w with k | ⟨j, e, k, v, k1, k2, k3, k4, k5⟩
  · exact .inl k
  · refine .inr ⟨j, e, k, v, k1, k2, k3, k4, k5, ?_, ?_⟩
    · have hf : kfst kvs j = k := by simp [kfst, List.getD_eq_getElem?_getD, k3]
      have h8 := h4 j e k2
      rw [hf] at h8
      simp only [keysFit, ht, mapK, Bool.and_eq_true] at hk
      obtain ⟨_, _, hkk, _⟩ := keyFits_key hE hk.1
      exact ((sameKey_rep hkk h8.2.1 hx h8.2.2).1 k4).symm
    · unfold mcells
      rw [List.getElem?_map, k3]
      simp only [Option.map_some, Option.some.injEq]
      exact mcell_at k4
theorem mapF_es {X : Cx} {I : Mem} {w : World} {n b clock : Nat} {ks vs : Nat → Value} {bo : Nat → Nat} (h : MapF I n b clock ks vs bo) (him : ImmOk X I w) :
    ∃ es : Array MapEntry, w.heap[b]? = some (.map es clock) ∧ es.size = n ∧ ∀ (i : Nat) e, es[i]? = some e → e.key = ks i ∧ e.val = vs i ∧ e.born = bo i := by
  obtain ⟨es, clock', h3, h5⟩ := him.map h.he
  have hsz : es.size = n := mapCells_size h5
  have hend := mapCells_end (es := es) (clock := clock')
  rw [hsz, h5] at hend
  simp only [Option.some.injEq, Value.tuple.injEq] at hend
  have hc : clock' = clock := by
    have := congrArg (fun a : Array Value => a[0]?) hend
    simp at this
    omega
  subst hc
  refine ⟨es, h3, hsz, fun i e he => ?_⟩
  have hi : i < n := by rw [← hsz]; exact (Array.getElem?_eq_some_iff.1 he).1
  obtain ⟨m1, m2, m3⟩ := mapCells_get (clock := clock') he
  have same : ∀ {o : Nat} {xs : Array Value}, I b o = some (.tuple xs) → (mapCells es clock')[o]? = some (.tuple xs) := by
    intro o xs ho
    obtain ⟨es', c', g1, g2⟩ := him.map ho
    rw [h3] at g1
    injection g1 with g1
    injection g1 with g1 g1'
    subst g1 g1'
    exact g2
  have q1 := same (h.hk i hi)
  have q2 := same (h.hv i hi)
  have q3 := same (h.hb i hi)
  rw [m1] at q1
  rw [m2] at q2
  rw [m3] at q3
  simp only [Option.some.injEq, Value.tuple.injEq] at q1 q2 q3
  refine ⟨by simpa using q1, by simpa using q2, ?_⟩
  have : ((e.born : Int)) = ((bo i : Nat) : Int) := by simpa using q3
  omega
theorem mp_find (hE : EnvOk P E tB) {X : Cx} {I : Mem} {w : World} (him : ImmOk X I w) {kvs : List (PV × PV)} {y : Value} (h : RepP I (.mp kvs) y) {t kt et : TypeId} (ht : E.ty t = .mapt kt et) {key : PV} {x : Value} (hk : keysFit E t key kvs = true) (hx : RepP I key x) :
    ∃ (b : Nat) (es : Array MapEntry) (clock : Nat), y = .map (some b) ∧ w.heap[b]? = some (.map es clock) ∧
      ((kvs.filter (fun z => sameKey key z.1) = [] ∧ (Instr.findKey kt x es.toList).run P w = .ok none w) ∨
        (kvs.filter (fun z => sameKey key z.1) ≠ [] ∧ ∀ z, kvs.filter (fun z => sameKey key z.1) = [z] → ∃ j v, (Instr.findKey kt x es.toList).run P w = .ok (some (j, v)) w ∧ RepP I z.2 v)) := by
  cases h with
  | mp kvs l b clock ks vs bo hp hI hkk hv =>
    obtain ⟨es, h1, h2, h3⟩ := mapF_es hI him
    refine ⟨b, es, clock, rfl, h1, ?_⟩
    have hkl : keysFit E t key l = true := by
      simp only [keysFit, Bool.and_eq_true, List.all_eq_true] at hk ⊢
      exact ⟨hk.1, fun z hz => hk.2 z (hp.mem_iff.1 hz)⟩
    have hpf := hp.filter (fun z => sameKey key z.1)
    rcases find_run hE ht hkl hx h2 (fun j e he => by
      rw [(h3 j e he).1]
      exact hkk j (by rw [← h2]; exact (Array.getElem?_eq_some_iff.1 he).1)) w with ⟨k1, k2, k3⟩ | ⟨j, e, k, v, k1, k2, k3, k4, k5⟩
    · refine .inl ⟨?_, k2⟩
      have : l.filter (fun z => sameKey key z.1) = [] := by
        rw [List.filter_eq_nil_iff]
        intro z hz
        rw [k3 z hz]
        simp
      rw [this] at hpf
      exact hpf.symm.eq_nil
    · have hm : (k, v) ∈ l.filter (fun z => sameKey key z.1) := by
        rw [List.mem_filter]
        exact ⟨List.mem_of_getElem? k3, k4⟩
      refine .inr ⟨fun e0 => ?_, fun z hz => ⟨j, e.val, k5, ?_⟩⟩
      · rw [e0] at hpf
        rw [hpf.eq_nil] at hm
        cases hm
      · rw [hz] at hpf
        have hm2 := hpf.mem_iff.1 hm
        simp only [List.mem_singleton] at hm2
        subst hm2
        have hj : j < l.length := (List.getElem?_eq_some_iff.1 k3).1
        have := hv j hj
        rw [show ksnd l j = v by simp [ksnd, List.getD_eq_getElem?_getD, k3], ← (h3 j e k2).2.1] at this
        exact this
/-- A map's cell is opened as the object d. -/
theorem Sim.openTab {X : Cx} {n : Nat} {I : Mem} {μ : Locs} {st : St} {a : Act} {w : World} (hE : EnvOk P X.E tB) (h : Sim X n I μ st a w) (hr : RowsOk μ) {q d b : Nat} (hd : d < 1000) {kvs : List (PV × PV)} (hl : look st.h q = some (.tab kvs none)) (hne : q ≠ d) (hb : μ q = some (.tab b))
    {t kt et : TypeId} (ht : X.E.ty t = .mapt kt et) {key : PV} {x : Value} (hk : keysFit X.E t key kvs = true) (hx : RepP I key x) {j : Nat} {v : PV} (hf : kfind key kvs 0 = some (j, v)) (hw : isOwned v = true) :
    ∃ ν y es j', (RowsOk ν ∧ Keep μ ν) ∧ RepC I ν (openRef d v) y ∧ Sim X n I ν (st.openAt q d v (.tab kvs (some (key, openRef d v)))) a w ∧ w.heap[b]? = some (.map es es.size) ∧ (Instr.findKey kt x es.toList).run P w = .ok (some (j', y)) w := by
  obtain ⟨β, hβ⟩ := h.h
  have hob := hβ.ok q _ hl
  obtain ⟨b', es, is, e1, h1, h2, h3, h4, h5, h6, h7⟩ := hob
  rw [hb] at h1
  injection h1 with h1
  injection h1 with h1
  subst h1
  rcases find_run hE ht hk hx h5.symm (fun j e he => (h4 j e he).2.2) w with ⟨k1, _⟩ | ⟨j0, e, k, v0, k1, k2, k3, k4, k5⟩
  · rw [k1] at hf; cases hf
  rw [k1] at hf
  simp only [Option.some.injEq, Prod.mk.injEq] at hf
  obtain ⟨rfl, rfl⟩ := hf
  have hke := sameKey_eq k4
  have hv : (mcells kvs none)[j0]? = some (.own v0) := by
    unfold mcells
    rw [List.getElem?_map, k3]
    rfl
  have hval : (es.toList.map fun e => e.val).getD j0 undef = e.val := by
    simp [List.getD_eq_getElem?_getD, List.getElem?_map, k2]
  obtain ⟨bl, bs', m1, m2, m3⟩ := h7.take hv
  rw [hval] at m1 m3
  have hj0 : j0 < kvs.length := (List.getElem?_eq_some_iff.1 k3).1
  have hcells : ∀ u, (mcells kvs none).set j0 u = mcells kvs (some (key, u)) := by
    intro u
    apply List.ext_getElem?
    intro i
    rw [List.getElem?_set]
    unfold mcells
    by_cases e : j0 = i
    · subst e
      rw [if_pos rfl, if_pos (by simpa using hj0), List.getElem?_map, k3]
      simp only [Option.map_some, mcell, k4, cond_true]
    · rw [if_neg e, List.getElem?_map, List.getElem?_map]
      cases hg : kvs[i]? with
      | none => rfl
      | some z =>
        simp only [Option.map_some, mcell, Option.some.injEq]
        have : sameKey key z.1 = false := by
          cases hs : sameKey key z.1
          · rfl
          · exfalso
            have e2 := sameKey_eq hs
            have hi : i < kvs.length := (List.getElem?_eq_some_iff.1 hg).1
            have q1 : (kvs.map Prod.fst)[j0]'(by simpa using hj0) = (kvs.map Prod.fst)[i]'(by simpa using hi) := by
              have z1 : kvs[j0] = (k, v0) := (List.getElem?_eq_some_iff.1 k3).2
              have z2 : kvs[i] = z := (List.getElem?_eq_some_iff.1 hg).2
              simp [z1, z2, ← hke, e2]
            have hn := List.pairwise_iff_getElem.1 h6
            rcases Nat.lt_or_gt_of_ne e with e3 | e3
            · exact hn j0 i (by simpa using hj0) (by simpa using hi) e3 q1
            · exact hn i j0 (by simpa using hi) (by simpa using hj0) e3 q1.symm
        rw [this]
        rfl
  have hkey0 : ∀ u, u ∈ mcells kvs none → u.keys = [] := by
    intro u hu
    unfold mcells at hu
    obtain ⟨z, _, rfl⟩ := List.mem_map.1 hu
    rfl
  obtain ⟨ν, n12, n3, n4⟩ := h.openAt (d := d) (o' := .tab kvs (some (key, openRef d v0))) (bs := b :: bs') hr hβ hd hl hne m1 hw (by rw [e1]; exact m2.cons b) (fun ν hν hrep => by
    refine ⟨b, es, bs', rfl, (hν q hne).trans hb, h2, h3, h4, h5, h6, ?_⟩
    rw [← hcells]
    exact m3 ν _ (fun c hc k hk => by rw [hkey0 c hc] at hk; cases hk) hrep) rfl rfl
  exact ⟨ν, e.val, es, j0, n12, n3, n4, h3, k5⟩
theorem mapOb_inv {h : List (Nat × Ob)} {v : GV} {y : Nat × List (PV × PV) × Option (PV × CV)} (e : mapOb h v = some y) : v = .c (.omap y.1) ∧ look h y.1 = some (.tab y.2.1 y.2.2) := by
  unfold mapOb at e
  split at e
  · rename_i r
    split at e
    · rename_i kvs ho hl
      simp only [Option.some.injEq] at e
      subst e
      exact ⟨rfl, hl⟩
    · cases e
  · cases e
theorem isMapT_inv {k : TK} (h : isMapT k = true) : ∃ kt et, k = .mapt kt et := by
  cases k with
  | mapt kt et => exact ⟨kt, et, rfl⟩
  | _ => cases h
theorem lookup_inv {o : Oper} {d : Nat} (hE : EnvOk P E tB) (hd : d < 1000) {st : St} {t : TypeId} {m k : Operand} {ok : Bool} {K : GV → St → Option R} (ho : o.op = .lookup t m k ok) (h : evLookup E d st t m k ok K = some r) :
    ∃ v st', K v st' = some r ∧ OpDoes P E tB W0 o st v st' := by
  unfold evLookup at h
  cases hc : isMapT (E.ty t) && isScalar (E.ty (mapE (E.ty t)))
  · rw [hc] at h; cases h
  rw [hc, cond_true] at h
  simp only [Bool.and_eq_true] at hc
  obtain ⟨kt, et, ht⟩ := isMapT_inv hc.1
  have hu := hE.mapt t kt et ht
  have hsc : isScalar (E.ty et) = true := by have := hc.2; rwa [ht] at this
  have hme : mapE (E.ty t) = et := by rw [ht]; rfl
  rw [hme] at h
  obtain ⟨z0, hz1, hz2⟩ := zeroC_rep hE hsc
  obtain ⟨key, hkey, h⟩ := wP_inv h
  cases hik : isKey key
  · rw [hik] at h; cases h
  rw [hik, cond_true] at h
  have krep : ∀ {X : Cx} {n : Nat} {I : Mem} {μ : Locs} {a : Act} {w : World}, Sim X n I μ st a w → RepP I key (a.eval k) := fun hs => by
    have := hs.ev k
    rw [hkey] at this
    exact this
  have chk : ∀ {kvs : List (PV × PV)}, keysFit E t key kvs = true → ∀ {I : Mem} {x : Value}, RepP I key x → ∀ (w : World) em, (Instr.checkKey em 10000 kt x).run P w = .ok () w := by
    intro kvs hk I x hx w em
    simp only [keysFit, ht, mapK, Bool.and_eq_true] at hk
    obtain ⟨_, _, _, h3⟩ := keyFits_desc hE hk.1
    exact (h3 I x hx w em).1
  split at h
  · rename_i v hv
    cases hm : isMp v && keysFit E t key (mapOf v)
    · rw [hm] at h; cases h
    rw [hm, cond_true] at h
    simp only [Bool.and_eq_true] at hm
    have mrep : ∀ {X : Cx} {n : Nat} {I : Mem} {μ : Locs} {a : Act} {w : World}, Sim X n I μ st a w → RepP I (.mp (mapOf v)) (a.eval m) := fun hs => by
      have := hs.ev m
      rw [hv] at this
      have e : v = .mp (mapOf v) := by
        cases v with
        | mp l => rfl
        | _ => cases hm.1
      rw [← e]
      exact this
    split at h
    · rename_i hfl
      obtain ⟨g, hg1, hg2⟩ := wOk_inv h
      refine ⟨g, st, hg1, fun {X n I μ a w} hX hB hW hr hs => ?_⟩
      obtain ⟨b, es, clock, y1, y2, y3⟩ := mp_find hE hs.im (mrep hs) ht hm.2 (krep hs)
      rcases y3 with ⟨_, y4⟩ | ⟨y4, _⟩
      · refine Upon.of_run (v := _) ?_ ⟨I, μ, NewI.refl X I, ⟨hr, Keep.refl μ⟩, hs, hg2 ((hz2 I μ).1)⟩
        simp only [execOp, ho]
        refine run_value ?_
        rw [y1]
        exact run_lookup_none ok hu y2 (fun em => chk hm.2 (krep hs) w em) y4 (hz1 w)
      · exact absurd hfl y4
    · rename_i z hfl
      cases hone : z.2.isOne
      · rw [hone] at h; cases h
      rw [hone, cond_true] at h
      obtain ⟨g, hg1, hg2⟩ := wOk_inv h
      refine ⟨g, st, hg1, fun {X n I μ a w} hX hB hW hr hs => ?_⟩
      obtain ⟨b, es, clock, y1, y2, y3⟩ := mp_find hE hs.im (mrep hs) ht hm.2 (krep hs)
      rcases y3 with ⟨y4, _⟩ | ⟨_, y4⟩
      · rw [hfl] at y4; cases y4
      · obtain ⟨j, v', y5, y6⟩ := y4 z hfl
        refine Upon.of_run (v := _) ?_ ⟨I, μ, NewI.refl X I, ⟨hr, Keep.refl μ⟩, hs, hg2 (show RepC I μ (.p z.2) v' from y6)⟩
        simp only [execOp, ho]
        refine run_value ?_
        rw [y1]
        exact run_lookup_some ok hu y2 (fun em => chk hm.2 (krep hs) w em) y5
    · cases h
  · split at h
    · rename_i y hy
      obtain ⟨hmv, hl⟩ := mapOb_inv hy
      cases hkf : keysFit E t key y.2.1
      · rw [hkf] at h; cases h
      rw [hkf, cond_true] at h
      have at' : ∀ {X : Cx} {n : Nat} {I : Mem} {μ : Locs} {a : Act} {w : World}, X.E = E → Sim X n I μ st a w → ∃ b, a.eval m = .map (some b) ∧ μ y.1 = some (.tab b) := fun hX hs => by
        have := hs.ev m
        rw [hmv] at this
        obtain ⟨b, h1, h2⟩ := this
        exact ⟨b, h2, h1⟩
      split at h
      · rename_i hf
        obtain ⟨g, hg1, hg2⟩ := wOk_inv h
        refine ⟨g, st, hg1, fun {X n I μ a w} hX hB hW hr hs => ?_⟩
        obtain ⟨b, h1, h2⟩ := at' hX hs
        subst hX
        obtain ⟨bs, hob⟩ := hs.h.ok _ _ hl
        obtain ⟨es, is, q1, _, _, _, q3⟩ := tab_at hE hob h2 ht hkf (krep hs)
        rcases q3 with ⟨_, q4, _⟩ | ⟨j, e, k0, v0, q4, _⟩
        · refine Upon.of_run (v := _) ?_ ⟨I, μ, NewI.refl X I, ⟨hr, Keep.refl μ⟩, hs, hg2 ((hz2 I μ).1)⟩
          simp only [execOp, ho]
          refine run_value ?_
          rw [h1]
          exact run_lookup_none ok hu q1 (fun em => chk hkf (krep hs) w em) q4 (hz1 w)
        · rw [q4] at hf; cases hf
      · rename_i x hf
        have plainCase : ∀ {cv : CV} {K' : GV → Option R}, evLookup.mcellAt y.2.2 key x.2 = cv → (∀ (X : Cx) (I : Mem) (μ : Locs) (w : World) z bl, X.E = E → CellO X I μ w cv z bl → ∃ cv', (∀ g, K' g = K g st) ∧ RepC I μ cv' z ∧ cv' = (match cv with | .own v => .p v | c => c)) → wOk ok (match cv with | .own v => .p v | c => c) true (fun v => K v st) = some r →
            ∃ v st', K v st' = some r ∧ OpDoes P E tB W0 o st v st' := by
          intro cv K' hcv hrep h
          obtain ⟨g, hg1, hg2⟩ := wOk_inv h
          refine ⟨g, st, hg1, fun {X n I μ a w} hX hB hW hr hs => ?_⟩
          obtain ⟨b, h1, h2⟩ := at' hX hs
          subst hX
          obtain ⟨bs, hob⟩ := hs.h.ok _ _ hl
          obtain ⟨es, is, q1, _, q2, q0, q3⟩ := tab_at hE hob h2 ht hkf (krep hs)
          rcases q3 with ⟨q4, _⟩ | ⟨j, e, k0, v0, q4, q5, q6, q7, q8, _, q9⟩
          · rw [q4] at hf; cases hf
          · rw [q4] at hf
            simp only [Option.some.injEq] at hf
            subst hf
            obtain ⟨_, bss, _, _, p3⟩ := q2
            rw [hcv] at q9
            have hval : (es.toList.map fun e => e.val).getD j undef = e.val := by simp [List.getD_eq_getElem?_getD, List.getElem?_map, q5]
            have p4 := (p3 j _ q9).1
            rw [hval] at p4
            obtain ⟨cv', _, p5, p6⟩ := hrep X I μ w _ _ rfl p4
            subst p6
            refine Upon.of_run (v := _) ?_ ⟨I, μ, NewI.refl X I, ⟨hr, Keep.refl μ⟩, hs, hg2 p5⟩
            simp only [execOp, ho]
            refine run_value ?_
            rw [h1]
            exact run_lookup_some ok hu q1 (fun em => chk hkf (krep hs) w em) q8
        split at h
        · rename_i v hv
          cases hw : isOwned v
          · rw [hw, cond_false] at h
            cases hone : v.isOne
            · rw [hone] at h; cases h
            rw [hone, cond_true] at h
            refine plainCase (K' := fun g => K g st) hv (fun X I μ w z bl hX hc => ⟨.p v, fun _ => rfl, ?_, rfl⟩) h
            have hc' : RepE X I w v z bl := hc
            cases hc' with
            | pure _ _ h0 h1 => exact h1
            | erow => cases hw
            | ebox => cases hw
          · rw [hw, cond_true] at h
            split at h
            · rename_i kvs hl2
              split at h
              · rename_i z hz
                cases hcc : isOwned z.2 && (keysFit E t key kvs && !Nat.beq y.1 d)
                · rw [hcc] at h; cases h
                rw [hcc, cond_true] at h
                simp only [Bool.and_eq_true, Bool.not_eq_true', nbeq, decide_eq_false_iff_not] at hcc
                obtain ⟨g, hg1, hg2⟩ := wOk_inv h
                refine ⟨g, _, hg1, fun {X n I μ a w} hX hB hW hr hs => ?_⟩
                obtain ⟨b, h1, h2⟩ := at' hX hs
                subst hX
                obtain ⟨ν, yv, es, j', n12, n3, n4, n5, n6⟩ := (hs.foldAt y.1 0).openTab hE hr hd hl2 hcc.2.2 h2 ht hcc.2.1 (krep hs) (j := z.1) (v := z.2) hz hcc.1
                refine Upon.of_run (v := _) ?_ ⟨I, ν, NewI.refl X I, n12, n4, hg2 n3⟩
                simp only [execOp, ho]
                refine run_value ?_
                rw [h1]
                exact run_lookup_some ok hu n5 (fun em => chk hcc.2.1 (krep hs) w em) n6
              · cases h
            · cases h
        · rename_i hno
          refine plainCase (K' := fun g => K g st) rfl (fun X I μ w z bl hX hc => ?_) ?_
          · cases hcv : evLookup.mcellAt y.2.2 key x.2 with
            | own v => exact absurd hcv (hno v)
            | _ => rw [hcv] at hc; exact ⟨_, fun _ => rfl, ((CellO.ref rfl).1 hc).1, rfl⟩
          · cases hcv : evLookup.mcellAt y.2.2 key x.2 with
            | own v => exact absurd hcv (hno v)
            | _ => rw [hcv] at h; exact h
    · cases h

/-! ### What is written into maps. -/
theorem RepO.setCell {X : Cx} {I : Mem} {μ : Locs} {w : World} {cs : List CV} {vs : List Value} {bs : List Nat} (h : RepO X I μ w cs vs bs) {j : Nat} {c : CV} {y : Value} (hc : CellO X I μ w c y []) (h1 : y.oneCell' = true) : ∃ bs', bs'.Sublist bs ∧ RepO X I μ w (cs.set j c) (vs.set j y) bs' := by
  obtain ⟨g1, bss, g2, rfl, g4⟩ := h
  refine ⟨(bss.set j []).flatten, ?_, by simpa using g1, bss.set j [], by simpa using g2, rfl, fun i v hv => ?_⟩
  · induction bss generalizing j vs cs with
    | nil => simp
    | cons b bss ih =>
      cases j with
      | zero => simp
      | succ j =>
        simp only [List.set_cons_succ, List.flatten_cons]
        refine List.Sublist.append (List.Sublist.refl _) ?_
        clear g1 g2 g4 ih
        induction bss generalizing j with
        | nil => simp
        | cons b2 bss ih2 =>
          cases j with
          | zero => simp
          | succ j => simp only [List.set_cons_succ, List.flatten_cons]; exact List.Sublist.append (List.Sublist.refl _) (ih2 j)
  · rw [List.getElem?_set] at hv
    by_cases e : j = i
    · subst e
      rw [if_pos rfl] at hv
      split at hv
      · rename_i hlt
        injection hv with hv
        subst hv
        have e1 : (vs.set j y).getD j undef = y := by simp [List.getD_eq_getElem?_getD, show j < vs.length by omega]
        have e2 : (bss.set j []).getD j [] = [] := by simp [List.getD_eq_getElem?_getD, show j < bss.length by omega]
        rw [e1, e2]
        exact ⟨hc, h1⟩
      · cases hv
    · rw [if_neg e] at hv
      have e1 : (vs.set j y).getD i undef = vs.getD i undef := by simp only [List.getD_eq_getElem?_getD, List.getElem?_set, if_neg e]
      have e2 : (bss.set j []).getD i [] = bss.getD i [] := by simp only [List.getD_eq_getElem?_getD, List.getElem?_set, if_neg e]
      rw [e1, e2]
      exact g4 i v hv
theorem RepO.pushCell {X : Cx} {I : Mem} {μ : Locs} {w : World} {cs : List CV} {vs : List Value} {bs : List Nat} (h : RepO X I μ w cs vs bs) {c : CV} {y : Value} (hc : CellO X I μ w c y []) (h1 : y.oneCell' = true) : RepO X I μ w (cs ++ [c]) (vs ++ [y]) bs := by
  obtain ⟨g1, bss, g2, rfl, g4⟩ := h
  refine ⟨by simp [g1], bss ++ [[]], by simp [g2], by simp, fun i v hv => ?_⟩
  rw [List.getElem?_append] at hv
  split at hv
  · rename_i hlt
    have e1 : (vs ++ [y]).getD i undef = vs.getD i undef := by simp [List.getD_eq_getElem?_getD, List.getElem?_append_left (show i < vs.length by omega)]
    have e2 : (bss ++ [[]]).getD i [] = bss.getD i [] := by simp [List.getD_eq_getElem?_getD, List.getElem?_append_left (show i < bss.length by omega)]
    rw [e1, e2]
    exact g4 i v hv
  · rename_i hge
    have hi : i = cs.length := by
      have := (List.getElem?_eq_some_iff.1 hv).1
      simp at this
      omega
    subst hi
    simp only [Nat.sub_self, List.getElem?_cons_zero, Option.some.injEq] at hv
    subst hv
    have e1 : (vs ++ [y]).getD cs.length undef = y := by rw [g1]; simp [List.getD_eq_getElem?_getD]
    have e2 : (bss ++ [[]]).getD cs.length [] = [] := by rw [g1, ← g2]; simp [List.getD_eq_getElem?_getD]
    rw [e1, e2]
    exact ⟨hc, h1⟩
/-- The world, a map another one. -/
def setMap (w : World) (b : Nat) (es : Array MapEntry) (c : Nat) : World := { w with heap := w.heap.setIfInBounds b (.map es c) }
theorem setMap_same {w : World} {b c : Nat} {es : Array MapEntry} {o : Obj} (h : w.heap[b]? = some o) : (setMap w b es c).heap[b]? = some (.map es c) := by
  have hlt := (Array.getElem?_eq_some_iff.1 h).1
  simp [setMap, hlt]
theorem setMap_other {w : World} {b c k : Nat} {es : Array MapEntry} (h : k ≠ b) : (setMap w b es c).heap[k]? = w.heap[k]? := by
  simp [setMap, Array.getElem?_setIfInBounds, show ¬ b = k from fun e => h e.symm]
theorem grownBy_setMap (w : World) (b : Nat) (es : Array MapEntry) (c : Nat) : w.grownBy (setMap w b es c) (some b) := ⟨rfl, rfl, rfl, by simp [setMap], fun k hk hne => setMap_other (fun e => hne (by rw [e]))⟩
/-- The entries behind a store. -/
theorem mcells_kset_new {kvs : List (PV × PV)} {key : PV} (hnew : ∀ z, z ∈ kvs → sameKey key z.1 = false) (hkk : isKey key = true) (v : PV) (u : CV) :
    mcells (kvs ++ [(key, v)]) none = mcells kvs none ++ [.own v] ∧ mcells (kvs ++ [(key, v)]) (some (key, u)) = mcells kvs none ++ [u] := by
  constructor
  · simp [mcells, mcell]
  · unfold mcells
    rw [List.map_append]
    congr 1
    · refine List.map_congr_left fun z hz => ?_
      simp only [mcell, hnew z hz, cond_false]
    · simp [mcell, sameKey_self hkk]
theorem mcells_kset_old {kvs : List (PV × PV)} {key k v0 : PV} {j : Nat} (hn : (kvs.map Prod.fst).Nodup) (hj : kvs[j]? = some (k, v0)) (hs : sameKey key k = true) (v : PV) (u : CV) :
    mcells (kvs.set j (k, v)) none = (mcells kvs none).set j (.own v) ∧ mcells (kvs.set j (k, v)) (some (key, u)) = (mcells kvs none).set j u := by
  have hlt := (List.getElem?_eq_some_iff.1 hj).1
  have hke := sameKey_eq hs
  constructor
  · unfold mcells
    rw [List.map_set]
    rfl
  · unfold mcells
    apply List.ext_getElem?
    intro i
    rw [List.getElem?_map, List.getElem?_set, List.getElem?_set]
    by_cases e : j = i
    · subst e
      rw [if_pos rfl, if_pos rfl, if_pos hlt, if_pos (by simpa using hlt)]
      simp only [Option.map_some, mcell, hs, cond_true]
    · rw [if_neg e, if_neg e, List.getElem?_map]
      cases hg : kvs[i]? with
      | none => rfl
      | some z =>
        simp only [Option.map_some, mcell, Option.some.injEq]
        have : sameKey key z.1 = false := by
          cases hs2 : sameKey key z.1
          · rfl
          · exfalso
            have e2 := sameKey_eq hs2
            have hi : i < kvs.length := (List.getElem?_eq_some_iff.1 hg).1
            have q1 : (kvs.map Prod.fst)[j]'(by simpa using hlt) = (kvs.map Prod.fst)[i]'(by simpa using hi) := by
              have z1 : kvs[j] = (k, v0) := (List.getElem?_eq_some_iff.1 hj).2
              have z2 : kvs[i] = z := (List.getElem?_eq_some_iff.1 hg).2
              simp [z1, z2, ← hke, e2]
            have hn := List.pairwise_iff_getElem.1 hn
            rcases Nat.lt_or_gt_of_ne e with e3 | e3
            · exact hn j i (by simpa using hlt) (by simpa using hi) e3 q1
            · exact hn i j (by simpa using hi) (by simpa using hlt) e3 q1.symm
        rw [this]
        rfl
theorem Sim.tabSet {X : Cx} {n : Nat} {I : Mem} {μ : Locs} {st : St} {a : Act} {w : World} (hE : EnvOk P X.E tB) (hs : Sim X n I μ st a w) {q b : Nat} {kvs : List (PV × PV)} (hl : look st.h q = some (.tab kvs none)) (hb : μ q = some (.tab b))
    {t kt et : TypeId} (ht : X.E.ty t = .mapt kt et) {key : PV} {x y : Value} (hk : keysFit X.E t key kvs = true) (hx : RepP I key x) {v : PV} {u : Option CV} (hc : CellO X I μ w (u.getD (.own v)) y []) (h1 : y.oneCell' = true) :
    ∃ w', (Instr.mapUpdate t (.map (some b)) x y).run P w = .ok () w' ∧ Sim X n I μ (Dip.setOb q (.tab (kset kvs (kpos key kvs) key v) (u.map fun u => (key, u))) st) a w' := by
  obtain ⟨β, hβ⟩ := hs.h
  obtain ⟨b', es, is, e1, g1, g2, g3, g4, g5, g6, g7⟩ := hβ.ok q _ hl
  rw [hb] at g1
  injection g1 with g1
  injection g1 with g1
  subst g1
  have hu := hE.mapt t kt et ht
  have hk0 := hk
  simp only [keysFit, ht, mapK, Bool.and_eq_true] at hk0
  obtain ⟨desc, hud, hkk, hchk⟩ := keyFits_desc hE hk0.1
  have hnd := hβ.nodup q _ hl
  rw [e1, List.nodup_cons] at hnd
  have hmem : b ∈ β q := by rw [e1]; simp
  have hby : (∃ ob, w.heap[b]? = some ob ∧ ∀ arr fz, ob ≠ .cells arr X.E.tb fz) ∨ (Ob.tab kvs none).isByte X.E = true := .inl ⟨_, g3, fun _ _ e => by cases e⟩
  have conv : ∀ {cs : List CV} {vs : List Value} {bs : List Nat} {es' : Array MapEntry} {c : Nat}, RepO X I μ w cs vs bs → (∀ k, k ∈ bs → k ∈ is) → RepO X I μ (setMap w b es' c) cs vs bs := by
    intro cs vs bs es' c h hsub
    have := h.conv (w' := setMap w b es' c) (J := I) (ν := μ) (MemLe.refl I) rfl rfl (f := fun v => v) (fun _ => rfl) (fun v _ x hx => hx) (fun k hk => setMap_other fun e => hnd.1 (e ▸ hsub k hk))
    simpa using this
  rcases find_run hE ht hk hx g5.symm (fun j e he => (g4 j e he).2.2) w with ⟨k1, k2, k3⟩ | ⟨j, e, k, v0, k1, k2, k3, k4, k5⟩
  · have hpos : kpos key kvs = kvs.length := by simp [kpos, k1]
    have hset : kset kvs (kpos key kvs) key v = kvs ++ [(key, v)] := by
      have hf : Nat.blt kvs.length kvs.length = false := by cases hq : Nat.blt kvs.length kvs.length; rfl; simp [Nat.blt_eq] at hq
      rw [hpos]; simp [kset, hf]
    refine ⟨setMap w b (es.push { key := x, val := y, born := es.size }) (es.size + 1), ?_, ?_⟩
    · simp [Instr.mapUpdate, run_underlying hu, MapKept.run_getObj_map g3, (hchk I x hx w false).1, k2, MapKept.run_setObj_map _ g3, Result.andThen, setMap]
    · rw [hset]
      refine hs.turn hβ hl hmem (grownBy_setMap w b _ _) hby rfl rfl rfl ⟨b, es.push { key := x, val := y, born := es.size }, is, rfl, hb, g2, ?_, ?_, by simp [g5], ?_, ?_⟩ (by rw [e1]; exact List.Sublist.refl _)
      · rw [setMap_same g3]; simp
      · intro i e' he'
        rw [Array.getElem?_push] at he'
        split at he'
        · rename_i hi
          injection he' with he'
          subst he'
          have hkf : kfst (kvs ++ [(key, v)]) i = key := by rw [hi, ← g5]; simp [kfst, List.getD_eq_getElem?_getD]
          rw [hkf]
          exact ⟨hi.symm, hkk, hx⟩
        · have hi : i < kvs.length := by rw [g5]; exact (Array.getElem?_eq_some_iff.1 he').1
          have hkf : kfst (kvs ++ [(key, v)]) i = kfst kvs i := by simp [kfst, List.getD_eq_getElem?_getD, List.getElem?_append_left hi]
          rw [hkf]
          exact g4 i e' he'
      · rw [List.map_append, List.nodup_append]
        refine ⟨g6, by simp, fun z hz y' hy' e => ?_⟩
        simp only [List.map_cons, List.map_nil, List.mem_singleton] at hy'
        subst hy'
        subst e
        obtain ⟨p, hp, hpz⟩ := List.mem_map.1 hz
        have := k3 p hp
        rw [hpz] at this
        rw [sameKey_self hkk] at this
        cases this
      · obtain ⟨m1, m2⟩ := mcells_kset_new k3 hkk v ((u.getD (.own v)))
        have hvals : ((es.push { key := x, val := y, born := es.size }).toList.map fun e => e.val) = (es.toList.map fun e => e.val) ++ [y] := by simp
        rw [hvals]
        refine conv (bs := is) ?_ (fun _ h => h)
        cases u with
        | none => rw [Option.map_none, m1]; exact g7.pushCell hc h1
        | some u0 => simp only [Option.map_some, Option.getD_some] at m2 ⊢; rw [m2]; exact g7.pushCell hc h1
  · have hj : j < kvs.length := (List.getElem?_eq_some_iff.1 k3).1
    have hje : j < es.size := by omega
    have hpos : kpos key kvs = j := by simp [kpos, k1]
    have hset : kset kvs (kpos key kvs) key v = kvs.set j (k, v) := by
      have hf : Nat.blt j kvs.length = true := by rw [Nat.blt_eq]; exact hj
      rw [hpos]
      simp [kset, hf, List.getD_eq_getElem?_getD, k3]
    have hkey : e.key = x := by
      have h8 := g4 j e k2
      have hf : kfst kvs j = k := by simp [kfst, List.getD_eq_getElem?_getD, k3]
      rw [hf] at h8
      exact ((sameKey_rep hkk h8.2.1 hx h8.2.2).1 k4).symm
    have hmod : ∀ i, (es.modify j fun e => { e with key := x, val := y })[i]? = if i = j then some { e with key := x, val := y } else es[i]? := by
      intro i
      rw [Array.getElem?_modify]
      by_cases e2 : j = i
      · subst e2; simp [k2]
      · simp [e2, show ¬ i = j from fun e3 => e2 e3.symm]
    refine ⟨setMap w b (es.modify j fun e => { e with key := x, val := y }) es.size, ?_, ?_⟩
    · simp [Instr.mapUpdate, run_underlying hu, MapKept.run_getObj_map g3, (hchk I x hx w false).1, k5, k2, hkey, (hchk I x hx w false).2, MapKept.run_setObj_map _ g3, Result.andThen, setMap]
    · rw [hset]
      obtain ⟨m1, m2⟩ := mcells_kset_old g6 k3 k4 v ((u.getD (.own v)))
      have hvals : ((es.modify j fun e => { e with key := x, val := y }).toList.map fun e => e.val) = (es.toList.map fun e => e.val).set j y := by
        apply List.ext_getElem?
        intro i
        rw [List.getElem?_map, Array.getElem?_toList, hmod, List.getElem?_set, List.getElem?_map, Array.getElem?_toList]
        by_cases e2 : i = j
        · subst e2; simp [hje]
        · simp [e2, show ¬ j = i from fun e3 => e2 e3.symm]
      obtain ⟨bs', q1, q2⟩ := g7.setCell (j := j) hc h1
      refine hs.turn (bs := b :: bs') hβ hl hmem (grownBy_setMap w b _ _) hby rfl rfl rfl ⟨b, es.modify j fun e => { e with key := x, val := y }, bs', rfl, hb, g2, ?_, ?_, by simp [g5], ?_, ?_⟩ (by rw [e1]; exact q1.cons_cons b)
      · rw [setMap_same g3]; simp
      · intro i e' he'
        rw [hmod] at he'
        have hkf : kfst (kvs.set j (k, v)) i = kfst kvs i := by
          simp only [kfst, List.getD_eq_getElem?_getD, List.getElem?_set]
          by_cases e2 : j = i
          · subst e2; rw [k3]; simp [hj]
          · simp [e2]
        rw [hkf]
        by_cases e2 : i = j
        · rw [if_pos e2] at he'
          injection he' with he'
          subst he'
          subst e2
          have h8 := g4 i e k2
          exact ⟨h8.1, h8.2.1, by rw [hkey] at h8; exact h8.2.2⟩
        · rw [if_neg e2] at he'
          exact g4 i e' he'
      · have : (kvs.set j (k, v)).map Prod.fst = kvs.map Prod.fst := by
          apply List.ext_getElem?
          intro i
          rw [List.getElem?_map, List.getElem?_set, List.getElem?_map]
          by_cases e2 : j = i
          · subst e2; rw [k3]; simp [hj]
          · simp [e2]
        rw [this]
        exact g6
      · rw [hvals]
        refine conv ?_ (fun _ h => q1.subset h)
        cases u with
        | none => rw [Option.map_none, m1]; exact q2
        | some u0 => simp only [Option.map_some, Option.getD_some] at m2 ⊢; rw [m2]; exact q2
theorem Upon.of_skip {o : Oper} {a : Act} {w w' : World} {Post : Value → World → Prop} (h : (execOp a.eval o).run P w = .ok .skip w') (hp : Post undef w') : Upon P o a w Post := by
  intro next Q hn
  unfold Oper.wp
  rw [h, Oper.upon_skip]
  exact hn _ w' hp
theorem refOf_inv {v : GV} {cv : CV} (h : refOf v = some cv) : v = .c cv ∧ isRef cv = true := by
  unfold refOf at h
  split at h
  · rename_i u
    cases hu : isRef u
    · rw [hu] at h; cases h
    · rw [hu, cond_true, Option.some.injEq] at h
      subst h
      exact ⟨rfl, hu⟩
  · cases h
theorem ref_one {I : Mem} {μ : Locs} (hr : RowsOk μ) {cv : CV} {y : Value} (h : isRef cv = true) (hy : RepC I μ cv y) : y.oneCell' = true := by
  refine (hy.one (fun z e => ?_) (fun r c => hr.one r c y)).1
  subst e
  cases h
theorem ref_cell {X : Cx} {I : Mem} {μ : Locs} {w : World} {cv : CV} {y : Value} (hy : RepC I μ cv y) : CellO X I μ w cv y [] := CellO.of hy
theorem own_cell {X : Cx} {I : Mem} {μ : Locs} {w : World} {v : PV} {y : Value} (hy : RepP I v y) : CellO X I μ w (.own v) y [] := RepE.pure v y hy.not_owned hy

theorem mapSet_inv {o : Oper} (hE : EnvOk P E tB) {st : St} {t : TypeId} {m k x : Operand} {K : St → Option R} (ho : o.op = .mapUpdate t m k x ∨ o.op = .insert t m k x) (h : evMapSet E st t m k x K = some r) :
    ∃ st', K st' = some r ∧ OpDoes P E tB W0 o st .any st' := by
  unfold evMapSet at h
  cases hc : isMapT (E.ty t) && isScalar (E.ty (mapE (E.ty t)))
  · rw [hc] at h; cases h
  rw [hc, cond_true] at h
  simp only [Bool.and_eq_true] at hc
  obtain ⟨kt, et, ht⟩ := isMapT_inv hc.1
  obtain ⟨key, hkey, h⟩ := wP_inv h
  cases hik : isKey key
  · rw [hik] at h; cases h
  rw [hik, cond_true] at h
  have krep : ∀ {X : Cx} {n : Nat} {I : Mem} {μ : Locs} {a : Act} {w : World}, Sim X n I μ st a w → RepP I key (a.eval k) := fun hs => by
    have := hs.ev k
    rw [hkey] at this
    exact this
  have run : ∀ {a : Act} {w w' : World}, (Instr.mapUpdate t (a.eval m) (a.eval k) (a.eval x)).run P w = .ok () w' → (execOp a.eval o).run P w = .ok .skip w' := by
    intro a w w' hrun
    rcases ho with ho | ho <;> simp only [execOp, ho, Sem.run_bind, hrun, Result.andThen_ok, Sem.run_pure]
  split at h
  · rename_i q hm
    have at' : ∀ {X : Cx} {n : Nat} {I : Mem} {μ : Locs} {a : Act} {w : World}, Sim X n I μ st a w → ∃ b, a.eval m = .map (some b) ∧ μ q = some (.tab b) := fun hs => by
      have := hs.ev m
      rw [hm] at this
      obtain ⟨b, h1, h2⟩ := this
      exact ⟨b, h2, h1⟩
    split at h
    · rename_i cv hcv
      obtain ⟨e1, e2⟩ := refOf_inv hcv
      split at h
      · rename_i kvs hl
        cases hkf : keysFit E t key kvs && !isIn cv.keys q
        · rw [hkf] at h; cases h
        rw [hkf, cond_true] at h
        simp only [Bool.and_eq_true] at hkf
        refine ⟨_, h, fun {X n I μ a w} hX hB hW hr hs => ?_⟩
        obtain ⟨b, h1, h2⟩ := at' hs
        subst hX
        have hs1 := hs.foldAt q 0
        have hv := hs1.evT (mapE (X.E.ty t)) x
        rw [e1] at hv
        have hv' : RepC I μ cv (a.eval x) := hv
        obtain ⟨w', g1, g2⟩ := hs1.tabSet hE hl h2 ht hkf.1 (krep hs) (v := .any) (u := some cv) (ref_cell hv') (ref_one hr e2 hv')
        exact Upon.of_skip (w' := w') (run (by rw [h1]; exact g1)) ⟨I, μ, NewI.refl X I, ⟨hr, Keep.refl μ⟩, g2, RepG.any _ _ _⟩
      · cases h
    · obtain ⟨v, st1, h, hp⟩ := wPure_inv h
      cases hone : v.isOne
      · rw [hone] at h; cases h
      rw [hone, cond_true] at h
      split at h
      · rename_i kvs hl
        cases hkf : keysFit E t key kvs
        · rw [hkf] at h; cases h
        rw [hkf, cond_true] at h
        refine ⟨_, h, fun {X n I μ a w} hX hB hW hr hs => ?_⟩
        obtain ⟨b, h1, h2⟩ := at' hs
        subst hX
        obtain ⟨J, j1, j2, j3⟩ := hp.does rfl ((hs.foldAt q 0).foldAll _)
        obtain ⟨w', g1, g2⟩ := j2.tabSet hE hl h2 ht hkf ((krep hs).mono j1.1) (v := v) (u := none) (own_cell j3) (j3.isOne hone).1
        exact Upon.of_skip (w' := w') (run (by rw [h1]; exact g1)) ⟨J, μ, j1, ⟨hr, Keep.refl μ⟩, g2, RepG.any _ _ _⟩
      · cases h
  · cases h

/-- A new map. -/
theorem makeMap_inv {o : Oper} {d : Nat} (hd : d < 1000) {st : St} {t : TypeId} (ho : o.op = .makeMap t none) : OpDoes P E tB W0 o st (.c (.omap d)) (newOb d (.tab [] none) (st.strike d)) := by
  intro X n I μ a w hX hB hW hr hs
  have hrun : (execOp a.eval o).run P w = .ok (.value (.map (some w.heap.size))) (w.alloc (.map #[] 0)) := by
    simp only [execOp, ho]
    exact run_value (by simp [Instr.makeMap])
  refine Upon.of_run hrun ⟨I, upd μ d (.tab w.heap.size), NewI.refl X I, ⟨hr.upd d _ fun v c e => (by cases e), Keep.upd μ _ (.inl hd)⟩, hs.newAt d _ _ _ ⟨w.heap.size, #[], [], rfl, upd_same μ d _, hs.bw, heap_alloc_new w _, fun i e he => by simp at he, rfl, List.nodup_nil, rfl, [], rfl, rfl, fun i v hv => by simp [mcells] at hv⟩ (by simp [okNew, Ob.isBld, Ob.isByte]), w.heap.size, upd_same μ d _, rfl⟩
theorem tup2_rep {I : Mem} {μ : Locs} {a : PV} {n : Nat} {x : Value} (h : RepP I a x) : RepG I μ (.tup [.p a, .p (.int .i64 (n : Int))]) (.tuple #[x, .int .i64 (n : Int)]) := by
  refine ⟨#[x, .int .i64 (n : Int)], rfl, rfl, fun i u hu => ?_⟩
  match i, hu with
  | 0, hu => simp only [List.getElem?_cons_zero, Option.some.injEq] at hu; subst hu; exact h
  | 1, hu => simp only [List.getElem?_cons_succ, List.getElem?_cons_zero, Option.some.injEq] at hu; subst hu; exact RepP.int _ _
  | i + 2, hu => simp at hu
theorem modify_ext {es : Array MapEntry} {j : Nat} {f g : MapEntry → MapEntry} (h : ∀ e, es[j]? = some e → f e = g e) : es.modify j f = es.modify j g := by
  apply Array.ext_getElem?
  intro i
  rw [Array.getElem?_modify, Array.getElem?_modify]
  by_cases e : j = i
  · subst e
    simp only [if_true]
    cases hg : es[j]? with
    | none => rfl
    | some z => simp [h z hg]
  · simp [e]
theorem mapEntry_inv {o : Oper} (hE : EnvOk P E tB) {st : St} {t : TypeId} {m k : Operand} {K : GV → St → Option R} (ho : o.op = .mapEntry t m k) (h : evMapEntry E st t m k K = some r) :
    ∃ v st', K v st' = some r ∧ OpDoes P E tB W0 o st v st' := by
  unfold evMapEntry at h
  cases hc : isMapT (E.ty t) && isScalar (E.ty (mapE (E.ty t)))
  · rw [hc] at h; cases h
  rw [hc, cond_true] at h
  simp only [Bool.and_eq_true] at hc
  obtain ⟨kt, et, ht⟩ := isMapT_inv hc.1
  have hu := hE.mapt t kt et ht
  have hsc : isScalar (E.ty et) = true := by have := hc.2; rwa [ht] at this
  have hme : mapE (E.ty t) = et := by rw [ht]; rfl
  rw [hme] at h
  obtain ⟨z0, hz1, hz2⟩ := zeroC_rep hE hsc
  obtain ⟨key, hkey, h⟩ := wP_inv h
  cases hik : isKey key
  · rw [hik] at h; cases h
  rw [hik, cond_true] at h
  have krep : ∀ {X : Cx} {n : Nat} {I : Mem} {μ : Locs} {a : Act} {w : World}, Sim X n I μ st a w → RepP I key (a.eval k) := fun hs => by
    have := hs.ev k
    rw [hkey] at this
    exact this
  split at h
  · rename_i q hm
    have at' : ∀ {X : Cx} {n : Nat} {I : Mem} {μ : Locs} {a : Act} {w : World}, Sim X n I μ st a w → ∃ b, a.eval m = .map (some b) ∧ μ q = some (.tab b) := fun hs => by
      have := hs.ev m
      rw [hm] at this
      obtain ⟨b, h1, h2⟩ := this
      exact ⟨b, h2, h1⟩
    split at h
    · rename_i kvs z hl hz
      cases hkf : keysFit E t key kvs && z.isOne
      · rw [hkf] at h; cases h
      rw [hkf, cond_true] at h
      simp only [Bool.and_eq_true] at hkf
      have hk0 := hkf.1
      simp only [keysFit, ht, mapK, Bool.and_eq_true] at hk0
      obtain ⟨desc, hud, hkk, hchk⟩ := keyFits_desc hE hk0.1
      split at h
      · rename_i x hf
        cases hw : isOwned x.2
        · rw [hw, cond_false] at h
          refine ⟨_, _, h, fun {X n I μ a w} hX hB hW hr hs => ?_⟩
          obtain ⟨b, h1, h2⟩ := at' hs
          subst hX
          have hs1 := hs.foldAt q 0
          obtain ⟨bs, hob⟩ := hs1.h.ok _ _ hl
          have hx := krep hs
          obtain ⟨es, is, q1, _, q2, q0, q3⟩ := tab_at hE hob h2 ht hkf.1 hx
          rcases q3 with ⟨q4, _⟩ | ⟨j, e, k0, v0, q4, q5, q6, q7, q8, q10, q9⟩
          · rw [q4] at hf; cases hf
          rw [q4] at hf
          simp only [Option.some.injEq] at hf
          subst hf
          obtain ⟨_, bss, _, _, p3⟩ := q2
          have hval : (es.toList.map fun e => e.val).getD j undef = e.val := by simp [List.getD_eq_getElem?_getD, List.getElem?_map, q5]
          obtain ⟨p4, p5⟩ := p3 j _ q9
          rw [hval] at p4 p5
          have p6 : RepP I v0 e.val := by
            exact (RepE.plain p4 hw).1
          obtain ⟨w', g1, g2⟩ := hs1.tabSet hE hl h2 ht hkf.1 hx (v := v0) (u := none) (own_cell p6) p5
          have e1 : w' = setMap w b (es.modify j fun e' => { e' with key := a.eval k, val := e.val }) es.size := by
            have : (Instr.mapUpdate t (.map (some b)) (a.eval k) e.val).run P w = .ok () (setMap w b (es.modify j fun e' => { e' with key := a.eval k, val := e.val }) es.size) := by
              simp [Instr.mapUpdate, run_underlying hu, MapKept.run_getObj_map q1, (hchk I _ hx w false).1, q8, q5, q10, (hchk I _ hx w false).2, MapKept.run_setObj_map _ q1, Result.andThen, setMap]
            rw [this] at g1
            injection g1 with _ g1
            exact g1.symm
          have hborn : e.born = j := by
            obtain ⟨_, es2, _, _, z1, _, z3, z4, _⟩ := hob
            rw [h2] at z1
            injection z1 with z1
            injection z1 with z1
            subst z1
            rw [q1] at z3
            injection z3 with z3
            injection z3 with z3 _
            subst z3
            exact (z4 j e q5).1
          have hpos : kpos key kvs = j := by simp [kpos, q4]
          refine Upon.of_run (v := .tuple #[e.val, .int .i64 ((j : Nat) : Int)]) (w' := w') ?_ ⟨I, μ, NewI.refl X I, ⟨hr, Keep.refl μ⟩, g2, ?_⟩
          · simp only [execOp, ho]
            refine run_value ?_
            rw [h1, e1]
            have hm2 := modify_ext (es := es) (j := j) (f := fun e' => { e' with key := a.eval k, val := e.val }) (g := fun e' => { e' with key := a.eval k }) (fun e' he' => by rw [q5] at he'; injection he' with he'; subst he'; rfl)
            rw [hm2]
            simp [Instr.mapEntry, run_underlying hu, MapKept.run_getObj_map q1, (hchk I _ hx w false).1, q8, q5, q10, (hchk I _ hx w false).2, MapKept.run_setObj_map _ q1, Result.andThen, setMap, goInt, hborn]
          · rw [hpos]
            exact tup2_rep (RepP.any _)
        · rw [hw] at h; cases h
      · rename_i hf
        refine ⟨_, _, h, fun {X n I μ a w} hX hB hW hr hs => ?_⟩
        obtain ⟨b, h1, h2⟩ := at' hs
        subst hX
        have hs1 := hs.foldAt q 0
        obtain ⟨bs, hob⟩ := hs1.h.ok _ _ hl
        have hx := krep hs
        obtain ⟨es, is, q1, _, q2, q0, q3⟩ := tab_at hE hob h2 ht hkf.1 hx
        rcases q3 with ⟨_, q4, _⟩ | ⟨j, e, k0, v0, q4, _⟩
        · have hzr : RepP I z z0 := pureC_rep hz (hz2 I μ).1
          obtain ⟨w', g1, g2⟩ := hs1.tabSet hE hl h2 ht hkf.1 hx (v := z) (u := none) (own_cell hzr) (hz2 I μ).2.1
          have e1 : w' = setMap w b (es.push { key := a.eval k, val := z0, born := es.size }) (es.size + 1) := by
            have : (Instr.mapUpdate t (.map (some b)) (a.eval k) z0).run P w = .ok () (setMap w b (es.push { key := a.eval k, val := z0, born := es.size }) (es.size + 1)) := by
              simp [Instr.mapUpdate, run_underlying hu, MapKept.run_getObj_map q1, (hchk I _ hx w false).1, q4, MapKept.run_setObj_map _ q1, Result.andThen, setMap]
            rw [this] at g1
            injection g1 with _ g1
            exact g1.symm
          have hpos : kpos key kvs = es.size := by rw [q0]; simp [kpos, hf]
          refine Upon.of_run (v := .tuple #[z0, .int .i64 ((es.size : Nat) : Int)]) (w' := w') ?_ ⟨I, μ, NewI.refl X I, ⟨hr, Keep.refl μ⟩, g2, ?_⟩
          · simp only [execOp, ho]
            refine run_value ?_
            rw [h1, e1]
            simp [Instr.mapEntry, run_underlying hu, MapKept.run_getObj_map q1, (hchk I _ hx w false).1, q4, hz1 w, MapKept.run_setObj_map _ q1, Result.andThen, setMap, goInt]
          · rw [hpos]
            exact tup2_rep (RepP.any _)
        · rw [q4] at hf; cases hf
    · cases h
  · cases h
theorem findIdx_born {es : Array MapEntry} (hb : ∀ (i : Nat) e, es[i]? = some e → e.born = i) {n : Int} {j : Nat} (hj : j < es.size) (hn : n = (j : Int)) : es.findIdx? (fun e => (e.born : Int) == n) = some j := by
  rw [Array.findIdx?_eq_some_iff_getElem]
  refine ⟨hj, ?_, fun i hi => ?_⟩
  · have := hb j es[j] (by simp [hj])
    simp [this, hn]
  · have hi' : i < es.size := Nat.lt_trans hi hj
    have := hb i es[i] (by simp [hi'])
    simp [this, hn]
    omega
theorem entryStore_inv {o : Oper} (hE : EnvOk P E tB) {st : St} {t : TypeId} {m s x : Operand} {K : St → Option R} (ho : o.op = .entryStore t m s x) (h : evEntryStore E st t m s x K = some r) :
    ∃ st', K st' = some r ∧ OpDoes P E tB W0 o st .any st' := by
  unfold evEntryStore at h
  cases hc : isMapT (E.ty t) && isScalar (E.ty (mapE (E.ty t)))
  · rw [hc] at h; cases h
  rw [hc, cond_true] at h
  simp only [Bool.and_eq_true] at hc
  obtain ⟨kt, et, ht⟩ := isMapT_inv hc.1
  have hu := hE.mapt t kt et ht
  obtain ⟨n, hn, h⟩ := wInt_inv h
  split at h
  · rename_i q hm
    have at' : ∀ {X : Cx} {n : Nat} {I : Mem} {μ : Locs} {a : Act} {w : World}, Sim X n I μ st a w → ∃ b, a.eval m = .map (some b) ∧ μ q = some (.tab b) := fun hs => by
      have := hs.ev m
      rw [hm] at this
      obtain ⟨b, h1, h2⟩ := this
      exact ⟨b, h2, h1⟩
    split at h
    · cases h
    · obtain ⟨v, st1, h, hp⟩ := wPure_inv h
      cases hone : v.isOne
      · rw [hone] at h; cases h
      rw [hone, cond_true] at h
      split at h
      · rename_i kvs hl
        cases hkf : inI n kvs.length && (keysFit E t (kfst kvs n.toNat) kvs && Nat.beq (kpos (kfst kvs n.toNat) kvs) n.toNat)
        · rw [hkf] at h; cases h
        rw [hkf, cond_true] at h
        simp only [Bool.and_eq_true, nbeq, decide_eq_true_eq, inI] at hkf
        obtain ⟨⟨hn0, hn1⟩, hkf, hpos⟩ := hkf
        have hk0 := hkf
        simp only [keysFit, ht, mapK, Bool.and_eq_true] at hk0
        obtain ⟨desc, hud, hkk, hchk⟩ := keyFits_desc hE hk0.1
        refine ⟨_, h, fun {X m' I μ a w} hX hB hW hr hs => ?_⟩
        obtain ⟨b, h1, h2⟩ := at' hs
        subst hX
        have hst := hs.ev s
        rw [hn] at hst
        have hst := rep_int hst
        obtain ⟨J, j1, j2, j3⟩ := hp.does rfl ((hs.foldAt q 0).foldAll _)
        obtain ⟨bs, hob⟩ := j2.h.ok _ _ hl
        have hob' := hob
        obtain ⟨_, es, is, _, z1, z2, z3, z4, z5, z6, z7⟩ := hob'
        rw [h2] at z1
        injection z1 with z1
        injection z1 with z1
        subst z1
        have hj : n.toNat < es.size := by omega
        have he : es[n.toNat]? = some es[n.toNat] := by simp [hj]
        have hx := (z4 _ _ he).2.2
        obtain ⟨w', g1, g2⟩ := j2.tabSet hE hl h2 ht hkf hx (v := v) (u := none) (own_cell j3) (j3.isOne hone).1
        obtain ⟨es', is', q1, _, q2, q0, q3⟩ := tab_at hE hob h2 ht hkf hx
        rw [z3] at q1
        injection q1 with q1
        injection q1 with q1 _
        subst q1
        have hfind : (Instr.findKey kt es[n.toNat].key es.toList).run P w = .ok (some (n.toNat, es[n.toNat].val)) w := by
          rcases q3 with ⟨q4, _⟩ | ⟨j, e, k0, v0, q4, q5, q6, q7, q8, q10, q9⟩
          · have : kpos (kfst kvs n.toNat) kvs = kvs.length := by simp [kpos, q4]
            omega
          · have hpj : kpos (kfst kvs n.toNat) kvs = j := by simp [kpos, q4]
            have e1 : j = n.toNat := by omega
            subst e1
            rw [he] at q5
            injection q5 with q5
            rw [q5]
            rw [q5] at q8
            exact q8
        have e1 : w' = setMap w b (es.modify n.toNat fun e' => { e' with key := es[n.toNat].key, val := a.eval x }) es.size := by
          have : (Instr.mapUpdate t (.map (some b)) es[n.toNat].key (a.eval x)).run P w = .ok () (setMap w b (es.modify n.toNat fun e' => { e' with key := es[n.toNat].key, val := a.eval x }) es.size) := by
            simp [Instr.mapUpdate, run_underlying hu, MapKept.run_getObj_map z3, (hchk J _ hx w false).1, hfind, he, (hchk J _ hx w false).2, MapKept.run_setObj_map _ z3, Result.andThen, setMap]
          rw [this] at g1
          injection g1 with _ g1
          exact g1.symm
        have hm2 := modify_ext (es := es) (j := n.toNat) (f := fun e' => { e' with key := es[n.toNat].key, val := a.eval x }) (g := fun e' => { e' with val := a.eval x }) (fun e' he' => by rw [he] at he'; injection he' with he'; subst he'; rfl)
        refine Upon.of_skip (w' := w') ?_ ⟨J, μ, j1, ⟨hr, Keep.refl μ⟩, g2, RepG.any _ _ _⟩
        have hfi := findIdx_born (fun i e he => (z4 i e he).1) hj (show n = ((n.toNat : Nat) : Int) by omega)
        have hrun : (Instr.entryStore t (a.eval m) (a.eval s) (a.eval x)).run P w = .ok () w' := by
          rw [h1, hst, e1, hm2]
          simp [Instr.entryStore, MapKept.run_getObj_map z3, asInt, asIntOf, hfi, MapKept.run_setObj_map _ z3, Result.andThen, setMap]
        simp only [execOp, ho, Sem.run_bind, hrun, Result.andThen_ok, Sem.run_pure]
      · cases h
  · cases h

/-! ### What goes over a map that is only read. -/
theorem range_inv {o : Oper} {d : Nat} (hE : EnvOk P E tB) (hd : d < 1000) {st : St} {t : TypeId} {x : Operand} {K : GV → St → Option R} (ho : o.op = .range t x) (ht : isMapT (E.ty t) = true) (h : evRange d st x K = some r) :
    ∃ v st', K v st' = some r ∧ OpDoes P E tB W0 o st v st' := by
  unfold evRange at h
  obtain ⟨v, hv, h⟩ := wP_inv h
  cases hm : isMp v
  · rw [hm] at h; cases h
  rw [hm, cond_true] at h
  obtain ⟨kt, et, hty⟩ := isMapT_inv ht
  have hu := hE.mapt t kt et hty
  refine ⟨_, _, h, fun {X n I μ a w} hX hB hW hr hs => ?_⟩
  have hx := hs.ev x
  rw [hv] at hx
  have hx' : RepP I v (a.eval x) := hx
  generalize hy : a.eval x = y at hx'
  cases hx' with
  | mp kvs l b clock ks vs bo hp hI hk hv' =>
    obtain ⟨es, h1, h2, h3⟩ := mapF_es hI hs.im
    have hrun : (execOp a.eval o).run P w = .ok (.value (.pointer (some ⟨w.heap.size, 0, none⟩))) (w.alloc (.mapIter (some b) clock #[] clock)) := by
      simp only [execOp, ho]
      refine run_value ?_
      rw [hy]
      simp [Instr.range, run_underlying hu, MapKept.run_getObj_map h1, Result.andThen]
    refine Upon.of_run hrun ⟨I, upd μ d (.it w.heap.size), NewI.refl X I, ⟨hr.upd d _ fun v c e => (by cases e), Keep.upd μ _ (.inl hd)⟩, hs.newAt d _ _ _ ⟨w.heap.size, b, clock, #[], clock, l, ks, vs, bo, rfl, upd_same μ d _, hs.bw, heap_alloc_new w _, rfl, hI, fun i hi => ⟨hk i hi, hv' i hi⟩, ?_, fun y e => by cases e⟩ (by simp [okNew, Ob.isBld, Ob.isByte]), .inr ⟨w.heap.size, .inr (upd_same μ d _), rfl, rfl⟩⟩
    have e1 : ((List.range l.length).filter fun i => !(#[] : Array Nat).contains (bo i)) = List.range l.length := by
      rw [List.filter_eq_self]
      intro i _
      simp
    rw [e1]
    have e2 : ((List.range l.length).map fun i => (kfst l i, ksnd l i)) = l := by
      apply List.ext_getElem?
      intro i
      rw [List.getElem?_map]
      by_cases hi : i < l.length
      · simp [List.getElem?_range hi, kfst, ksnd, List.getD_eq_getElem?_getD, hi]
      · rw [List.getElem?_eq_none (by simpa using hi), List.getElem?_eq_none (by omega)]; rfl
    rw [e2]
    exact hp
  | _ => cases hm
theorem it_at {X : Cx} {I : Mem} {μ : Locs} {w : World} {q off : Nat} {rem : List (PV × PV)} {cur : Option (PV × PV)} {bs : List Nat} {z : Value} (h : ObB X I μ w q (.it rem cur) bs) (him : ImmOk X I w) (hz : RepC I μ (.ptr q off) z) :
    ∃ (b m clock : Nat) (seen : Array Nat) (l : List (PV × PV)) (ks vs : Nat → Value) (bo : Nat → Nat) (es : Array MapEntry), z = .pointer (some ⟨b, 0, none⟩) ∧ bs = [b] ∧ μ q = some (.it b) ∧ X.B ≤ b ∧ w.heap[b]? = some (.mapIter (some m) clock seen clock) ∧ w.heap[m]? = some (.map es clock) ∧ es.size = l.length ∧ MapF I l.length m clock ks vs bo ∧
      (∀ (i : Nat) e, es[i]? = some e → e.key = ks i ∧ e.val = vs i ∧ e.born = bo i) ∧ (∀ i, i < l.length → RepP I (kfst l i) (ks i) ∧ RepP I (ksnd l i) (vs i)) ∧
      (((List.range l.length).filter fun i => !seen.contains (bo i)).map fun i => (kfst l i, ksnd l i)).Perm rem ∧ ∀ y, cur = some y → ∃ i, i < l.length ∧ seen.back? = some (bo i) ∧ y = (kfst l i, ksnd l i) := by
  obtain ⟨b, m, since, seen, clock, l, ks, vs, bo, h0, h1, h2, h3, h4, h5, h6, h7, h8⟩ := h
  subst h4
  obtain ⟨es, g1, g2, g3⟩ := mapF_es h5 him
  refine ⟨b, m, since, seen, l, ks, vs, bo, es, ?_, h0, h1, h2, h3, g1, g2, h5, g3, h6, h7, h8⟩
  rcases hz with ⟨b', h9, _⟩ | ⟨b', h9, _, h10⟩
  · rw [h1] at h9; injection h9 with h9; cases h9
  · rcases h9 with ⟨_, h9⟩ | h9
    · rw [h1] at h9; injection h9 with h9; cases h9
    · rw [h1] at h9; injection h9 with h9; injection h9 with h9; subst h9; exact h10
theorem left_mem {es : Array MapEntry} {seen : Array Nat} {e : MapEntry} (h : e ∈ (leftOf es seen).toList) : ∃ i : Nat, es[i]? = some e ∧ seen.contains e.born = false := by
  unfold leftOf at h
  simp only [Array.toList_filter, List.mem_filter, Bool.not_eq_true'] at h
  obtain ⟨i, hi⟩ := List.getElem?_of_mem h.1
  exact ⟨i, by simpa using hi, h.2⟩
theorem mem_left {es : Array MapEntry} {seen : Array Nat} {e : MapEntry} {i : Nat} (h : es[i]? = some e) (hs : seen.contains e.born = false) : e ∈ (leftOf es seen).toList := by
  unfold leftOf
  simp only [Array.toList_filter, List.mem_filter, Bool.not_eq_true']
  exact ⟨List.mem_of_getElem? (by simpa using h), hs⟩
theorem next_inv {o : Oper} (hE : EnvOk P E tB) {st : St} {x : Operand} {K : GV → St → Option R} (ho : o.op = .next x false) (h : evNext st x K = some r) :
    ∃ v st', K v st' = some r ∧ OpDoes P E tB W0 o st v st' := by
  unfold evNext at h
  split at h
  · rename_i q off hq
    have pt : ∀ {X : Cx} {n : Nat} {I : Mem} {μ : Locs} {a : Act} {w : World}, Sim X n I μ st a w → RepC I μ (.ptr q off) (a.eval x) := fun hs => by
      have := hs.ev x
      rw [hq] at this
      exact this
    split at h
    · rename_i cur hl
      refine ⟨_, _, h, fun {X n I μ a w} hX hB hW hr hs => ?_⟩
      obtain ⟨bs, hob⟩ := hs.h.ok _ _ hl
      obtain ⟨b, m, clock, seen, l, ks, vs, bo, es, e1, e2, e3, e4, e5, e6, e7, e8, e9, e10, e11, e12⟩ := it_at hob hs.im (pt hs)
      have hold : ∀ z ∈ es.toList, z.born < clock := fun z hz => by
        obtain ⟨i, hi⟩ := List.getElem?_of_mem hz
        have hi' : es[i]? = some z := by simpa using hi
        have hlt : i < l.length := by rw [← e7]; exact (Array.getElem?_eq_some_iff.1 hi').1
        rw [(e9 i z hi').2.2]
        exact e8.lt i hlt
      rcases run_next_at (P := P) w o.type b m clock clock seen es clock e5 e6 hold (Nat.le_refl _) with ⟨_, hrun⟩ | ⟨e, he, w1, hw1, hrun⟩
      · refine Upon.of_run (v := .tuple #[.bool false]) (w' := w) ?_ ⟨I, μ, NewI.refl X I, ⟨hr, Keep.refl μ⟩, hs, #[.bool false], rfl, rfl, fun i u hu => ?_⟩
        · simp only [execOp, ho]
          exact run_value (by rw [e1]; exact hrun)
        · match i, hu with
          | 0, hu => simp only [List.getElem?_cons_zero, Option.some.injEq] at hu; subst hu; exact RepP.bool _
          | i + 1, hu => simp at hu
      · exfalso
        obtain ⟨i, hi, hs'⟩ := left_mem he
        have hlt : i < l.length := by rw [← e7]; exact (Array.getElem?_eq_some_iff.1 hi).1
        have hm : (kfst l i, ksnd l i) ∈ (((List.range l.length).filter fun i => !seen.contains (bo i)).map fun i => (kfst l i, ksnd l i)) := by
          refine List.mem_map.2 ⟨i, ?_, rfl⟩
          rw [List.mem_filter]
          exact ⟨List.mem_range.2 hlt, by rw [← (e9 i e hi).2.2, hs']; rfl⟩
        have := e11.mem_iff.1 hm
        cases this
    · rename_i y cur hl
      refine ⟨_, _, h, fun {X n I μ a w} hX hB hW hr hs => ?_⟩
      obtain ⟨β, hβ⟩ := hs.h
      have hob := hβ.ok _ _ hl
      obtain ⟨b, m, clock, seen, l, ks, vs, bo, es, e1, e2, e3, e4, e5, e6, e7, e8, e9, e10, e11, e12⟩ := it_at hob hs.im (pt hs)
      have hold : ∀ z ∈ es.toList, z.born < clock := fun z hz => by
        obtain ⟨i, hi⟩ := List.getElem?_of_mem hz
        have hi' : es[i]? = some z := by simpa using hi
        have hlt : i < l.length := by rw [← e7]; exact (Array.getElem?_eq_some_iff.1 hi').1
        rw [(e9 i z hi').2.2]
        exact e8.lt i hlt
      have hlen : ((List.range l.length).filter fun i => !seen.contains (bo i)).length = 1 := by
        have := e11.length_eq
        simpa using this
      obtain ⟨i0, hi0⟩ := List.length_eq_one_iff.1 hlen
      have hin : ∀ i, i < l.length → seen.contains (bo i) = false → i = i0 := fun i hi hc => by
        have : i ∈ (List.range l.length).filter fun i => !seen.contains (bo i) := by
          rw [List.mem_filter]
          exact ⟨List.mem_range.2 hi, by rw [hc]; rfl⟩
        rw [hi0] at this
        simpa using this
      have h0 : i0 < l.length ∧ seen.contains (bo i0) = false := by
        have : i0 ∈ (List.range l.length).filter fun i => !seen.contains (bo i) := by rw [hi0]; simp
        rw [List.mem_filter] at this
        exact ⟨List.mem_range.1 this.1, by simpa using this.2⟩
      have hy : y = (kfst l i0, ksnd l i0) := by
        rw [hi0] at e11
        simpa using e11.symm
      have hes0 : es[i0]? = some es[i0] := by simp [show i0 < es.size by omega]
      rcases run_next_at (P := P) w o.type b m clock clock seen es clock e5 e6 hold (Nat.le_refl _) with ⟨hz, hrun⟩ | ⟨e, he, w1, hw1, hrun⟩
      · exfalso
        have := mem_left hes0 (by rw [(e9 i0 _ hes0).2.2]; exact h0.2)
        have h9 : (leftOf es seen).toList = [] := by
          have : (leftOf es seen) = #[] := Array.eq_empty_of_size_eq_zero hz
          rw [this]
        rw [h9] at this
        cases this
      · obtain ⟨i, hi, hs'⟩ := left_mem he
        have hlt : i < l.length := by rw [← e7]; exact (Array.getElem?_eq_some_iff.1 hi).1
        have hii : i = i0 := hin i hlt (by rw [← (e9 i e hi).2.2]; exact hs')
        subst hii
        obtain ⟨f1, f2, f3⟩ := e9 i e hi
        have hg : w.grownBy (ChangeMaps.setBlock w1 b (.mapIter (some m) clock (seen.push e.born) clock)) (some b) := by
          rcases hw1 with rfl | rfl
          · exact ⟨rfl, rfl, rfl, by simp [ChangeMaps.setBlock], fun k hk hne => by simp [ChangeMaps.setBlock, Array.getElem?_setIfInBounds, show ¬ b = k from fun e' => hne (by rw [e'])]⟩
          · exact ⟨rfl, rfl, rfl, by simp [ChangeMaps.setBlock], fun k hk hne => by simp [ChangeMaps.setBlock, Array.getElem?_setIfInBounds, show ¬ b = k from fun e' => hne (by rw [e'])]; rfl⟩
        have hbl : (ChangeMaps.setBlock w1 b (.mapIter (some m) clock (seen.push e.born) clock)).heap[b]? = some (.mapIter (some m) clock (seen.push e.born) clock) := by
          have hlt : b < w.heap.size := (Array.getElem?_eq_some_iff.1 e5).1
          rcases hw1 with rfl | rfl <;> simp [ChangeMaps.setBlock, hlt]
        have hsim := hs.turn (q := q) (o' := .it [] (some y)) (bs := [b]) hβ hl (by rw [e2]; simp) hg (.inl ⟨_, e5, fun _ _ e => by cases e⟩) rfl rfl rfl ⟨b, m, clock, seen.push e.born, clock, l, ks, vs, bo, rfl, e3, e4, hbl, rfl, e8, e10, ?_, ?_⟩ (by rw [e2]; exact List.Sublist.refl _)
        · refine Upon.of_run (v := _) (w' := _) ?_ ⟨I, μ, NewI.refl X I, ⟨hr, Keep.refl μ⟩, hsim, #[.bool true, e.key, e.val], rfl, rfl, fun j u hu => ?_⟩
          · simp only [execOp, ho]
            exact run_value (by rw [e1]; exact hrun)
          · match j, hu with
            | 0, hu => simp only [List.getElem?_cons_zero, Option.some.injEq] at hu; subst hu; exact RepP.bool _
            | 1, hu =>
              simp only [List.getElem?_cons_succ, List.getElem?_cons_zero, Option.some.injEq] at hu
              subst hu
              show RepP I y.1 e.key
              rw [hy, f1]
              exact (e10 i hlt).1
            | 2, hu =>
              simp only [List.getElem?_cons_succ, List.getElem?_cons_zero, Option.some.injEq] at hu
              subst hu
              show RepP I y.2 e.val
              rw [hy, f2]
              exact (e10 i hlt).2
            | j + 3, hu => simp at hu
        · have : ((List.range l.length).filter fun k => !(seen.push e.born).contains (bo k)) = [] := by
            rw [List.filter_eq_nil_iff]
            intro k hk hc
            have hk' := List.mem_range.1 hk
            simp only [Bool.not_eq_true', Array.contains_push, Bool.or_eq_false_iff] at hc
            have hk2 : seen.contains (bo k) = false := by first | exact hc.2 | exact hc.1
            have := hin k hk' hk2
            subst this
            rw [f3] at hc
            simp at hc
          rw [this]
          exact List.Perm.refl _
        · intro y' hy'
          injection hy' with hy'
          subst hy'
          exact ⟨i, hlt, by rw [Array.back?_push, f3], hy⟩
    · cases h
  · cases h
theorem entry_inv {o : Oper} (hE : EnvOk P E tB) {st : St} {x : Operand} {K : GV → Option R} (ho : o.op = .entry x) (h : evEntry st x K = some r) :
    ∃ v, K v = some r ∧ OpDoes P E tB W0 o st v st := by
  unfold evEntry at h
  split at h
  · rename_i q off hq
    split at h
    · rename_i rem y hl
      refine ⟨_, h, fun {X n I μ a w} hX hB hW hr hs => ?_⟩
      have pt : RepC I μ (.ptr q off) (a.eval x) := by
        have := hs.ev x
        rw [hq] at this
        exact this
      obtain ⟨bs, hob⟩ := hs.h.ok _ _ hl
      obtain ⟨b, m, clock, seen, l, ks, vs, bo, es, e1, e2, e3, e4, e5, e6, e7, e8, e9, e10, e11, e12⟩ := it_at hob hs.im pt
      obtain ⟨i, hi, hb, hy⟩ := e12 y rfl
      have hes : es[i]? = some es[i] := by simp [show i < es.size by omega]
      obtain ⟨f1, f2, f3⟩ := e9 i _ hes
      obtain ⟨seen', hseen⟩ : ∃ s' : Array Nat, seen = s'.push es[i].born := by
        have hb' : seen.toList.getLast? = some (bo i) := by
          rw [List.getLast?_eq_getElem?]
          simpa [Array.back?] using hb
        obtain ⟨ys, hys⟩ := List.getLast?_eq_some_iff.1 hb'
        refine ⟨ys.toArray, ?_⟩
        rw [f3]
        apply Array.toList_inj.1
        simpa using hys
      rw [hseen] at e5
      have hn : (es.toList.map (·.born)).Nodup := by
        rw [List.nodup_iff_pairwise_ne, List.pairwise_iff_getElem]
        intro j k hj hk hjk e
        simp only [List.length_map, Array.length_toList] at hj hk
        simp only [List.getElem_map, Array.getElem_toList] at e
        have g1 := (e9 j es[j] (by simp [hj])).2.2
        have g2 := (e9 k es[k] (by simp [hk])).2.2
        have := e8.ne j k (by omega) (by omega) (by rw [← g1, ← g2]; exact e)
        omega
      have hrun := run_entry_at (P := P) w b m clock seen' es clock es[i] e5 e6 (by simp) hn
      refine Upon.of_run (v := .tuple #[es[i].key, es[i].val]) (w' := w) ?_ ⟨I, μ, NewI.refl X I, ⟨hr, Keep.refl μ⟩, hs, #[es[i].key, es[i].val], rfl, rfl, fun j u hu => ?_⟩
      · simp only [execOp, ho]
        exact run_value (by rw [e1]; exact hrun)
      · match j, hu with
        | 0, hu =>
          simp only [List.getElem?_cons_zero, Option.some.injEq] at hu
          subst hu
          show RepP I y.1 es[i].key
          rw [hy, f1]
          exact (e10 i hi).1
        | 1, hu =>
          simp only [List.getElem?_cons_succ, List.getElem?_cons_zero, Option.some.injEq] at hu
          subst hu
          show RepP I y.2 es[i].val
          rw [hy, f2]
          exact (e10 i hi).2
        | j + 2, hu => simp at hu
    · cases h
  · cases h

/-! ### Slices that are made. -/
theorem pures_cells {I : Mem} {μ : Locs} : ∀ {cs : List CV} {ps : List PV} {xs : List Value}, pures cs = some ps → RepCs I μ cs xs → ps.length = xs.length ∧ ∀ j, j < ps.length → RepP I (ps.getD j .any) (xs.getD j undef) ∧ (xs.getD j undef).oneCell' = true
  | [], ps, xs, h, hr => by
    simp only [pures, Option.some.injEq] at h
    subst h
    exact ⟨hr.1, fun j hj => by simp at hj⟩
  | c :: cs, ps, [], h, hr => by simp [RepCs] at hr
  | c :: cs, ps, x :: xs, h, hr => by
    simp only [pures] at h
    split at h
    · rename_i y ys hy hys
      simp only [Option.some.injEq] at h
      subst h
      obtain ⟨h1, h2⟩ := pures_cells (μ := μ) hys (xs := xs) ⟨by simpa using hr.1, fun i v hv => by have := hr.2 (i + 1) v (by simpa using hv); simpa using this⟩
      refine ⟨by simp [h1], fun j hj => ?_⟩
      cases j with
      | zero =>
        have := hr.2 0 c rfl
        exact ⟨pureC_rep hy (by simpa using this.1), by simpa using this.2⟩
      | succ j => simpa using h2 j (by simpa using hj)
    · cases h
theorem zeroP_rep (hE : EnvOk P E tB) {e : TypeId} {z : PV} (h : zeroP E e = some z) : ∃ i y, P.info? e = some i ∧ i.zero = some y ∧ z.cnt = E.sz e ∧ y.cells.size = E.sz e ∧ ∀ I, ∀ j, j < E.sz e → RepP I (pcell z j) (y.cells.toList.getD j undef) ∧ (y.cells.toList.getD j undef).oneCell' = true := by
  unfold zeroP at h
  split at h
  · rename_i ps hps
    cases hst : isStruct (E.ty e)
    · rw [hst, cond_false] at h
      cases hsc : isScalar (E.ty e)
      · rw [hsc] at h; cases h
      rw [hsc, cond_true] at h
      obtain ⟨i, y, hi, hy, hr, _, hl, h1⟩ := hE.zero e (.inr hsc)
      obtain ⟨_, _, _, _, _, _, hsz⟩ := hE.scalar e hsc
      have hr0 := fun I => pures_cells (I := I) (μ := fun _ => none) hps (hr I _)
      split at h
      · rename_i p
        cases hp1 : p.isOne
        · rw [hp1] at h; cases h
        rw [hp1, cond_true, Option.some.injEq] at h
        subst h
        have hcells := h1 hsc
        have hone := PV.one_cells hp1
        refine ⟨i, y, hi, hy, by rw [hone.2, hsz], by rw [hcells, hsz]; rfl, fun I j hj => ?_⟩
        have hj0 : j = 0 := by omega
        subst hj0
        have := (hr0 I).2 0 (by simp)
        simpa [pcell, hone.1] using this
      · cases h
    · rw [hst, cond_true, Option.some.injEq] at h
      subst h
      obtain ⟨i, y, hi, hy, hr, _, hl, _⟩ := hE.zero e (.inl hst)
      have hr0 := fun I => pures_cells (I := I) (μ := fun _ => none) hps (hr I _)
      have h3 := (hr (fun _ _ => none) (fun _ => none)).1
      have h4 := (hr0 (fun _ _ => none)).1
      refine ⟨i, y, hi, hy, by simp [PV.cnt]; omega, by simp at h3; omega, fun I j hj => (hr0 I).2 j (by omega)⟩
  · cases h
theorem madeCells_at {zs : Array Value} {n p : Nat} (hp : p < n) : (madeCells zs n).toList.getD p undef = zs[p % zs.size]! := by
  simp [madeCells, List.getD_eq_getElem?_getD, hp]
theorem makeSlice_inv {o : Oper} {d : Nat} (hE : EnvOk P E tB) (hd : d < 1000) {st : St} {t : TypeId} {n c : Operand} {K : GV → St → Option R} (ho : o.op = .makeSlice t n c) (h : evMakeSlice E d st t n c K = some r) :
    ∃ v st', K v st' = some r ∧ OpDoes P E tB W0 o st v st' := by
  unfold evMakeSlice at h
  split at h
  · rename_i e ht
    obtain ⟨m, hm, h⟩ := wInt_inv h
    obtain ⟨m', hm', h⟩ := wInt_inv h
    split at h
    · rename_i z hz
      cases hc : decide (m = m') && (decide (0 ≤ m) && (decide (m ≤ 1048576) && (Nat.ble (m.toNat * E.sz e) 16777216 && !Nat.beq e E.tb)))
      · rw [hc] at h; cases h
      rw [hc, cond_true] at h
      simp only [Bool.and_eq_true, decide_eq_true_eq, Nat.ble_eq, Bool.not_eq_true', nbeq, decide_eq_false_iff_not] at hc
      obtain ⟨rfl, h0, h1, h2, h3⟩ := hc
      obtain ⟨hok, h⟩ := wNew_inv h
      obtain ⟨hu, i, z', hi, hsz, hz', hzc, hpos, hby, h64⟩ := hE.slice t e ht
      obtain ⟨i2, y, hi2, hy, hcnt, hcells, hrep⟩ := zeroP_rep hE hz
      rw [hi] at hi2
      injection hi2 with hi2
      subst hi2
      refine ⟨_, _, h, row_does hd hok fun {X k I μ a w} hX hr hs => ?_⟩
      have e1 := hs.ev n
      rw [hm] at e1
      have e1 := rep_int e1
      have e2 := hs.ev c
      rw [hm'] at e2
      have e2 := rep_int e2
      obtain ⟨w', g1, g2, g3⟩ := run_makeSlice_full (P := P) (w := w) X.B t e i y (E.sz e) hu hi hy hsz .i64 .i64 m.toNat h2 (by
        have := Nat.mul_le_mul hby (show m.toNat ≤ 1048576 by omega)
        omega) (by simp only [maxLen]; omega) hs.bw
      refine ⟨I, .slice (some ⟨w.heap.size, 0, none⟩) m.toNat m.toNat, w', (madeCells y.cells (m.toNat * E.sz e)).toList, NewI.refl X I, hs, g3, ?_, by rw [List.length_replicate]; exact g2, ?_, fun b hb => ?_⟩
      · simp only [execOp, ho]
        refine run_value ?_
        rw [e1, e2]
        have : ((m.toNat : Nat) : Int) = m := by omega
        rw [this] at g1
        exact g1
      · intro p hp
        rw [List.length_replicate] at hp
        have hget : (List.replicate m.toNat z).getD p .any = z := by simp [List.getD_eq_getElem?_getD, hp]
        rw [hget]
        refine ⟨hcnt, fun j hj => ?_⟩
        have hlt : p * E.sz e + j < m.toNat * E.sz e := by
          have := Nat.mul_le_mul_right (E.sz e) (show p + 1 ≤ m.toNat by omega)
          rw [Nat.add_mul] at this
          omega
        rw [madeCells_at hlt, hcells, Nat.add_comm, Nat.add_mul_mod_self_right, Nat.mod_eq_of_lt hj]
        have := hrep I j hj
        have hjs : j < y.cells.size := by omega
        rw [← agetD] at this
        simpa [Array.getD, hjs, getElem!_def] using this
      · simp only [Value.ownBlock, Option.some.injEq] at hb
        omega
    · cases h
  · cases h

/-! ### Owned rows, stored into rows. -/
theorem row_deep {X : Cx} {I : Mem} {μ : Locs} {w : World} {c : Nat} {es : List PV} {xs : List Value} (h : RowRep I c es xs) (hl : xs.length = es.length * c) : RepO X I μ w (dcells c es none) xs [] := by
  refine ⟨by rw [dcells_len, hl], List.replicate xs.length [], by simp, by rw [flatten_nils], fun p v hv => ?_⟩
  have hp : p < es.length * c := by
    have := (List.getElem?_eq_some_iff.1 hv).1
    rwa [dcells_len] at this
  have hc0 : 0 < c := Nat.pos_of_ne_zero fun e => by subst e; simp at hp
  have hq : p / c < es.length := Nat.div_lt_of_lt_mul (by rw [Nat.mul_comm]; exact hp)
  have hm : p % c < c := Nat.mod_lt _ hc0
  have e : p / c * c + p % c = p := by rw [Nat.mul_comm]; exact Nat.div_add_mod p c
  rw [← e, dcells_get hq hm] at hv
  simp only [dcell, Option.some.injEq] at hv
  subst hv
  obtain ⟨k1, k2⟩ := (h (p / c) hq).2 (p % c) hm
  rw [e] at k1 k2
  have hb : (List.replicate xs.length ([] : List Nat)).getD p [] = [] := by
    simp only [List.getD_eq_getElem?_getD, List.getElem?_replicate]
    split <;> rfl
  rw [hb]
  exact ⟨own_cell k1, k2⟩
theorem isDeep_inv {o : Option Ob} (h : isDeep o = true) : ∃ e es ho, o = some (.deep e es ho) := by
  unfold isDeep at h
  split at h
  · exact ⟨_, _, _, rfl⟩
  · cases h
theorem Sim.toDeep {X : Cx} {n : Nat} {I : Mem} {μ : Locs} {st : St} {a : Act} {w : World} (h : Sim X n I μ st a w) (q : Nat) : Sim X n I μ (st.toDeep X.E q) a w := by
  unfold St.toDeep
  split
  · rename_i e es hl
    cases hc : X.E.dp e && !Nat.beq e X.E.tb
    · exact h
    · rw [cond_true]
      simp only [Bool.and_eq_true, Bool.not_eq_true', nbeq, decide_eq_false_iff_not] at hc
      obtain ⟨β, hβ⟩ := h.h
      obtain ⟨v, xs, e1, h1, h2, h3⟩ := hβ.ok q _ hl
      have hd := h.refoldLess hβ (ds := []) (o' := .deep e es none) hl (by simp) ⟨v, xs, [], by simpa using e1, h1, hc.2, h2, fun i hi => (h3 i hi).1, row_deep h3 h2.1⟩ rfl rfl
      exact hd
  · exact h
theorem Sim.deepRef {X : Cx} {n : Nat} {I : Mem} {μ : Locs} {st : St} {a : Act} {w : World} (hE : EnvOk P X.E tB) (h : Sim X n I μ st a w) {q : Nat} {e : TypeId} {es : List PV} {i : Int} {off : Nat} {cv : CV} {t : TypeId} {v y : Value}
    (hl : look st.h q = some (.deep e es none)) (hi : i.toNat < es.length) (ho : off < X.E.sz e) (hv : RepC I μ cv v) (h1 : v.oneCell' = true) (hcell : v.cells = #[v]) (hsc : isScalar (X.E.ty t) = true) (hy : RepC I μ (.ptrE q i off) y) :
    ∃ w', (Instr.storeAt t y v).run P w = .ok () w' ∧ Sim X n I μ (Dip.setOb q (.deep e es (some (i.toNat, off, cv))) st) a w' := by
  obtain ⟨β, hβ⟩ := h.h
  obtain ⟨sl, xs, is, hbs, hμ, hne, hown, hcn, hrep⟩ := hβ.ok q _ hl
  obtain ⟨d, inf, _, _, hinf, hsz, _⟩ := hE.scalar t hsc
  obtain ⟨g, m, cap, c, k1, k2, k3, rfl⟩ := hy
  rw [hμ] at k1
  injection k1 with k1
  injection k1 with k1 k1'
  subst k1 k1'
  rcases hown.2 with ⟨z1, _⟩ | ⟨g', cap', cur, z1, zB, zg, znc, zcm, zs, zt⟩
  · cases z1
  · injection z1 with z1 z2 z3
    injection z1 with z1
    injection z1 with z1
    subst z1 z2 z3
    have hlin : i.toNat * X.E.sz e + off < es.length * X.E.sz e := by
      have := Nat.mul_le_mul_right (X.E.sz e) (show i.toNat + 1 ≤ es.length from hi)
      rw [Nat.add_mul] at this
      omega
    have hcl : es.length * X.E.sz e ≤ cur.size := by rw [zs]; exact Nat.mul_le_mul_right _ znc
    have hxl : xs.length = es.length * X.E.sz e := hown.1
    have hcl1 : v.cells.toList = [v] := by rw [hcell]
    have hnd := hβ.nodup q _ hl
    have hfit : (i.toNat * X.E.sz e + off) + [v].length ≤ cur.toList.length := by simp; omega
    obtain ⟨is', m1, m2⟩ := hrep.setCell (j := i.toNat * X.E.sz e + off) (c := cv) (y := v) (CellO.of hv) h1
    refine ⟨_, run_storeAt' hinf (by rw [hcell, hsz]; rfl) zg (by rw [hcell]; simpa using hfit) (by rw [hcell]; intro x hx; simp at hx; subst hx; exact h1), ?_⟩
    refine h.setOb hβ (bs := g :: is') hl (b := g) (by rw [hbs]; simp [Value.ownBlock]) (.inl (cells_aside zg hne)) rfl rfl (by simp [Ob.isByte]) ?_ (by rw [hbs]; simpa [Value.ownBlock] using m1)
    have hset : splice xs (i.toNat * X.E.sz e + off) [v] = xs.set (i.toNat * X.E.sz e + off) v := by
      apply List.ext_getElem?
      intro p
      rw [splice_get _ _ _ (by simp; omega), List.getElem?_set]
      by_cases e : i.toNat * X.E.sz e + off = p
      · subst e; simp; omega
      · rw [if_neg e, if_neg (by simp; omega)]
    refine ⟨_, xs.set (i.toNat * X.E.sz e + off) v, is', by simp [Value.ownBlock], hμ, hne, ⟨by simpa using hxl, .inr ⟨g, cap, _, rfl, zB, setRow_heap w g cur _ e _ zg, znc, zcm, ?_, ?_⟩⟩, hcn, ?_⟩
    · have := splice_length cur.toList _ [v] hfit
      rw [hcl1]
      simp only [List.size_toArray]
      rw [this]; simpa using zs
    · rw [hcl1, splice_take _ _ _ _ (by simp; omega) (by simpa using hcl), zt]
      exact hset
    · rw [dcells_open hi ho] at m2
      have hgis : g ∉ is := by
        rw [hbs] at hnd
        simp only [Value.ownBlock, Option.toList, List.singleton_append, List.nodup_cons] at hnd
        exact hnd.1
      have := m2.conv (w' := w.setRow g (splice cur.toList (i.toNat * X.E.sz e + off) v.cells.toList).toArray) (J := I) (ν := μ) (MemLe.refl I) rfl rfl (f := fun v => v) (fun _ => rfl) (fun v _ x hx => hx) (fun c hc => setRow_other w g c _ fun e => hgis (e ▸ m1.subset hc))
      simpa using this
theorem store2_inv {o : Oper} (hE : EnvOk P E tB) {st : St} {t : TypeId} {ad x : Operand} {K : St → Option R} (ho : o.op = .store t ad x) (h : evStore2 E st t (st.ev ad) x K = some r) :
    ∃ st', K st' = some r ∧ OpDoes P E tB W0 o st .any st' := by
  have fin : ∀ {st1 st' : St}, (∀ {X : Cx} {n : Nat} {I : Mem} {μ : Locs} {a : Act} {w : World}, X.E = E → Sim X n I μ st a w → Sim X n I μ st1 a w) → StoreDoes P E tB st1 t x (st.ev ad) st' → OpDoes P E tB W0 o st .any st' := by
    intro st1 st' h1 h2 X n I μ a w hX hB hW hr hs
    obtain ⟨w', J, k1, k2, k3⟩ := h2 hX hr (h1 hX hs) (hs.ev ad)
    refine Upon.of_skip (w' := w') ?_ ⟨J, μ, k2, ⟨hr, Keep.refl μ⟩, k3, RepG.any _ _ _⟩
    simp only [execOp, ho, Sem.run_bind, k1, Result.andThen_ok, Sem.run_pure]
  have deep : ∀ {st1 : St} {q : Nat} {i : Int} {off : Nat}, st.ev ad = .c (.ptrE q i off) → (∀ {X : Cx} {n : Nat} {I : Mem} {μ : Locs} {a : Act} {w : World}, X.E = E → Sim X n I μ st a w → Sim X n I μ st1 a w) → deepStore E st1 q i off t x K = some r → ∃ st', K st' = some r ∧ OpDoes P E tB W0 o st .any st' := by
    intro st1 q i off ha h1 hd
    unfold deepStore at hd
    split at hd
    · rename_i cv hcv
      obtain ⟨e1, e2⟩ := refOf_inv hcv
      split at hd
      · rename_i e es hl
        cases hc : !isIn cv.keys q && (isScalar (E.ty t) && (Nat.blt i.toNat es.length && Nat.blt off (E.sz e)))
        · rw [hc] at hd; cases hd
        rw [hc, cond_true] at hd
        simp only [Bool.and_eq_true, Nat.blt_eq] at hc
        refine ⟨_, hd, fin h1 fun {X n I μ a w y} hX hr hs hy => ?_⟩
        subst hX
        have hs1 := hs.foldAt q 0
        have hv := hs1.evT t x
        rw [e1] at hv
        have hv' : RepC I μ cv (a.eval x) := hv
        have hone := hv'.one (fun z e => by subst e; cases e2) (fun r c => hr.one r c _)
        rw [ha] at hy
        obtain ⟨w', g1, g2⟩ := hs1.deepRef hE hl hc.2.2.1 hc.2.2.2 hv' hone.1 hone.2 hc.2.1 hy
        exact ⟨w', I, g1, NewI.refl X I, g2⟩
      · cases hd
    · cases hd
  unfold evStore2 at h
  split at h
  · rename_i q i off ha
    cases hd : isDeep (look st.h q)
    · rw [hd, cond_false] at h
      split at h
      · cases hd2 : isDeep (look (st.toDeep E q).h q)
        · rw [hd2, cond_false] at h
          obtain ⟨st', h1, h2⟩ := evStore_inv hE h
          exact ⟨st', h1, fin (fun _ hs => hs) h2⟩
        · rw [hd2, cond_true] at h
          exact deep ha (fun hX hs => by subst hX; exact hs.toDeep q) h
      · obtain ⟨st', h1, h2⟩ := evStore_inv hE h
        exact ⟨st', h1, fin (fun hX hs => by subst hX; exact hs.foldAll _) h2⟩
    · rw [hd, cond_true] at h
      exact deep ha (fun _ hs => hs) h
  · obtain ⟨st', h1, h2⟩ := evStore_inv hE h
    exact ⟨st', h1, fin (fun _ hs => hs) h2⟩
end
end Go.Dip
end

/- An ideal semantics of the model's code, part 22: what an operation does, whichever it is. -/
section
set_option linter.unusedVariables false
set_option linter.unusedSimpArgs false
namespace Go.Dip
section
variable {R : Type} {r : R} {P : Program} {E : Env} {tB : TypeId} {W0 : World}

theorem wPures_inv : ∀ {l : List (TypeId × Operand)} {st : St} {acc : List PV} {K : List PV → St → Option R}, wPures E st l acc K = some r →
    ∃ vs st', K (acc.reverse ++ vs) st' = some r ∧ vs.length = l.length ∧ ∀ {X : Cx} {n : Nat} {I : Mem} {μ : Locs} {a : Act} {w : World}, X.E = E → Sim X n I μ st a w →
      ∃ J, NewI X I J ∧ Sim X n J μ st' a w ∧ ∀ (i : Nat) x, l[i]? = some x → RepP J (vs.getD i .any) (a.eval x.2)
  | [], st, acc, K, h => ⟨[], st, by simpa [wPures] using h, rfl, fun {X n I μ a w} hX hs => ⟨I, NewI.refl X I, hs, fun i x hi => by simp at hi⟩⟩
  | x :: l, st, acc, K, h => by
    simp only [wPures] at h
    obtain ⟨y, st1, h, hp⟩ := wPure_inv h
    obtain ⟨vs, st2, h1, h2, h3⟩ := wPures_inv h
    refine ⟨y :: vs, st2, by simpa using h1, by simp [h2], fun {X n I μ a w} hX hs => ?_⟩
    obtain ⟨J, k1, k2, k3⟩ := hp.does hX hs
    obtain ⟨L, k4, k5, k6⟩ := h3 hX k2
    refine ⟨L, k1.trans k4, k5, fun i z hz => ?_⟩
    cases i with
    | zero => simp at hz; subst hz; simpa using k3.mono k4.1
    | succ i => simpa using k6 i z (by simpa using hz)

theorem alloc_bld {o : Oper} {d : Nat} (hd : d < 1000) {st : St} {t : TypeId} {K : GV → St → Option R} (hE : EnvOk P E tB) (ho : o.op = .alloc t) (ht : E.ty t = .bld)
    (h : (wNew E d (.bld []) (st.strike d) fun st => K (.c (.ptr d 0)) st) = some r) : ∃ v st', K v st' = some r ∧ OpDoes P E tB W0 o st v st' := by
  obtain ⟨hok, h⟩ := wNew_inv h
  refine ⟨_, _, h, fun {X n I μ a w} hX hB hW hr hs => ?_⟩
  obtain ⟨htB, i, hi, hz⟩ := hE.bld t ht
  have hrun : (execOp a.eval o).run P w = .ok (.value (.pointer (some ⟨w.heap.size, 0, none⟩))) (w.alloc (.cells #[.pointer none, .slice none 0 0] t)) := by
    simp only [execOp, ho]
    exact run_value (by simp [Instr.alloc, run_zero hi hz, run_newVar', Value.cells])
  subst hX hB hW
  refine Upon.of_run hrun ⟨I, upd μ d (.bld w.heap.size w.heap.size), NewI.refl X I, ⟨hr.upd d _ fun v c e => (by cases e), Keep.upd μ _ (.inl hd)⟩, hs.newAt d _ _ _ ⟨w.heap.size, w.heap.size, rfl, upd_same μ d _, hs.bw, .inr hs.fr.size, .inl ⟨Nat.le_refl _, .slice none 0 0, ?_, World.ownsRowF_nil _ _ _ _, by simp [Value.ownBlock]⟩⟩ hok, .inr ⟨_, .inl ⟨_, upd_same μ d _⟩, rfl, rfl⟩⟩
  rw [← htB]
  exact heap_alloc_new w _

/-- The operands of a call that is handed objects. -/
theorem callHeap_inv {o : Oper} {d : Nat} {st : St} {f : Operand} {args : Array Operand} {ts : Array TypeId} {g : FuncId} {rs : List Nat} {F : List GV → List (Nat × Ob) → (GV → List (Nat × Ob) → Option R) → Option R} {K : GV → St → Option R} (hE : EnvOk P E tB)
    (ho : o.op = .call { callee := .value f, args := args, argTypes := ts }) (hf : st.ev f = .c (.fn g rs)) (hbn : bnd g = true → args.size = 0) (hsz : ts.size = args.size)
    (hF : ∀ args H K r, F args H K = some r → ∃ v H', K v H' = some r ∧ HeapFn P E tB W0 (unb g) args H v H') (h : callHeap E d st (wArgs E st (ts.toList.zip args.toList) ++ ptrs rs) F K = some r) :
    ∃ v st', K v st' = some r ∧ OpDoes P E tB W0 o st v st' := by
  unfold callHeap at h
  simp only at h
  generalize hks : reach st.h 100 ((wArgs E st (ts.toList.zip args.toList) ++ ptrs rs).flatMap GV.keys) [] = ks at h
  cases hc : Nat.blt ks.length 1000 && (keysIn ks ((wArgs E st (ts.toList.zip args.toList) ++ ptrs rs).flatMap GV.keys) && ks.all (hasOb st.h ks))
  · rw [hc] at h; exact absurd h (by simp)
  · simp only [hc, cond_true] at h
    simp only [Bool.and_eq_true, Nat.blt_eq] at hc
    obtain ⟨c1, c2, c3⟩ := hc
    obtain ⟨v, H, h, hfn⟩ := hF _ _ _ _ h
    cases hc2 : distinct (H.map fun x => back d ks x.1) && (keysIn (H.map fun x => x.1) v.keys && (H.all (fun x => keysIn (H.map fun x => x.1) x.2.keys) && H.all fun x => oldKey ks x.1 || !isIn ks (back d ks x.1)))
    · rw [hc2] at h; exact absurd h (by simp)
    · simp only [hc2, cond_true] at h
      simp only [Bool.and_eq_true] at hc2
      obtain ⟨d1, d2, d3, d4⟩ := hc2
      generalize hst1 : strikeAll ((H.filter fun x => !oldKey ks x.1).map (fun x => back d ks x.1) ++ ks.filter (rowAt st.h)) { st with h := dropAll ks st.h } = st1 at h
      cases hok : okHeap E ((H.map fun x => (back d ks x.1, x.2.map (CV.ren (back d ks)))) ++ st1.h)
      · rw [hok] at h; exact absurd h (by simp)
      · simp only [hok, cond_true] at h
        refine ⟨_, _, h, fun {X n I μ a w} hX hB hW hr hs => ?_⟩
        have hfv := hs.ev f
        rw [hf] at hfv
        obtain ⟨fs, cap, e1, e0, e2, e3⟩ := hfv
        subst hX hB hW
        have hla : (wArgs X.E st (ts.toList.zip args.toList)).length = args.size := by rw [wArgs_length]; simp [hsz]
        have hargs : fs ++ args.map a.eval ++ cap = args.map a.eval ++ (fs ++ cap) := by
          cases hbg : bnd g with
          | false => rw [e0 hbg]; simp
          | true =>
            have h0 : args = #[] := Array.eq_empty_of_size_eq_zero (hbn hbg)
            rw [h0]; simp
        have hrun : (execOp a.eval o).run P w = (callFunc (unb g) (args.map a.eval ++ (fs ++ cap))).run P w := by
          rw [← hargs]
          exact run_call ho e1
        generalize hcap : fs ++ cap = cap' at hrun e2 e3
        refine heapCall hE hr hs hrun ?_ ?_ c1 (keysIn_iff.1 c2) ?_ hfn d1 (keysIn_iff.1 d2) ?_ ?_ _ (fun x hx ho => ?_) (fun q p hp ho hrow hq => ?_) st1 hst1.symm (.inl hok)
        · simp only [Array.size_append, Array.size_map, List.length_append, hla, ptrs, List.length_map, e2]
        · intro i hi
          simp only [List.length_append, hla, ptrs, List.length_map] at hi
          by_cases hlt : i < args.size
          · have := hs.args ts args hsz i hlt
            have g1 : (wArgs X.E st (ts.toList.zip args.toList) ++ ptrs rs).getD i .any = (wArgs X.E st (ts.toList.zip args.toList)).getD i .any := by
              simp only [List.getD_eq_getElem?_getD, List.getElem?_append_left (show i < (wArgs X.E st (ts.toList.zip args.toList)).length by omega)]
            have g2 : (args.map a.eval ++ cap').getD i undef = (args.map a.eval).getD i undef := by
              rw [agetD, agetD, Array.toList_append]
              simp only [List.getD_eq_getElem?_getD]
              rw [List.getElem?_append_left (by simpa using hlt)]
            rw [g1, g2]
            exact this
          · have hj : i - args.size < rs.length := by omega
            have g1 : (wArgs X.E st (ts.toList.zip args.toList) ++ ptrs rs).getD i .any = .c (.ptr rs[i - args.size] 0) := by
              simp only [List.getD_eq_getElem?_getD]
              rw [List.getElem?_append_right (by omega), hla]
              simp [ptrs, hj]
            have g2 : (args.map a.eval ++ cap').getD i undef = cap'.getD (i - args.size) undef := by
              rw [agetD, agetD, Array.toList_append]
              simp only [List.getD_eq_getElem?_getD]
              rw [List.getElem?_append_right (by simp; omega)]
              simp
            rw [g1, g2]
            exact e3 (i - args.size) _ (by simp [hj])
        · intro k hk
          have := (List.all_eq_true.1 c3) k hk
          unfold hasOb at this
          split at this
          · rename_i ob hob
            exact ⟨ob, hob, keysIn_iff.1 this⟩
          · cases this
        · intro x hx
          exact keysIn_iff.1 ((List.all_eq_true.1 d3) x hx)
        · intro x hx
          have := (List.all_eq_true.1 d4) x hx
          simp only [Bool.or_eq_true, Bool.not_eq_true'] at this
          rcases this with e | e
          · exact .inl e
          · exact .inr fun hm => by rw [isIn_iff.2 hm] at e; cases e
        · rw [List.mem_append]
          left
          refine List.mem_map.2 ⟨x, ?_, rfl⟩
          rw [List.mem_filter]
          exact ⟨hx, by rw [ho]; rfl⟩
        · exfalso
          apply hq
          rw [List.mem_append]
          right
          rw [List.mem_filter]
          refine ⟨?_, hrow⟩
          simp only [back, ho, cond_true]
          exact oldKey_mem ho

theorem flat1_rep {v : PV} {x : Value} {I J : Mem} (h : flat1 v = true) (hx : RepP I v x) : RepP J v x := by
  cases hx <;> first | (cases h; done) | constructor
theorem flatP_rep {v : PV} {x : Value} {I J : Mem} (h : flatP v = true) (hx : RepP I v x) : RepP J v x := by
  unfold flatP at h
  cases hx with
  | agg cs vs hl hr h1 =>
    refine RepP.agg cs vs hl (fun i hi => ?_) h1
    refine flat1_rep ?_ (hr i hi)
    have := (List.all_eq_true.1 h) (cs.getD i .any) (by
      show cs.getD i .any ∈ cs
      rw [getD_lt hi]
      exact List.getElem_mem hi)
    exact this
  | any v => simp [PV.cells, flat1] at h
  | gone => simp [PV.cells, flat1] at h
  | bool b => constructor
  | int k n => constructor
  | str s => constructor
  | fn f => constructor
  | nilp => constructor
  | nilif => constructor
  | someif t v => constructor
  | nilsl c a => simp [PV.cells, flat1] at h
  | sl => simp [PV.cells, flat1] at h
  | mp => simp [PV.cells, flat1] at h
theorem flatC_rep {v : CV} {x : Value} {I J : Mem} {μ ν : Locs} (h : flatC v = true) (hx : RepC I μ v x) : RepC J ν v x := by
  cases v with
  | p v => exact flatP_rep (v := v) h hx
  | _ => cases h
theorem flatG_rep {v : GV} {x : Value} {I J : Mem} {μ ν : Locs} (h : flatG v = true) (hx : RepG I μ v x) : RepG J ν v x := by
  cases v with
  | c v => exact flatC_rep (v := v) h hx
  | agg cs =>
    obtain ⟨vs, h1, h2, h3⟩ := hx
    exact ⟨vs, h1, h2, fun i u hu => ⟨flatC_rep ((List.all_eq_true.1 h) u (List.mem_of_getElem? hu)) (h3 i u hu).1, (h3 i u hu).2⟩⟩
  | tup cs =>
    obtain ⟨vs, h1, h2, h3⟩ := hx
    exact ⟨vs, h1, h2, fun i u hu => flatC_rep ((List.all_eq_true.1 h) u (List.mem_of_getElem? hu)) (h3 i u hu)⟩
theorem ImmOk.belowC {X : Cx} {I : Mem} {w w' : World} (h : ImmOk X I w) (hb : RowKit.Below w.heap.size w w') : ImmOk X I w' := by
  intro b o v hv
  rcases h b o v hv with ⟨k, arr, T, fz, h1, h2, h3⟩ | ⟨k, es, clock, h1, h2⟩
  · exact .inl ⟨k, arr, T, fz, by rw [hb.block b (Array.getElem?_eq_some_iff.1 h1).1]; exact h1, h2, h3⟩
  · exact .inr ⟨k, es, clock, by rw [hb.block b (Array.getElem?_eq_some_iff.1 h1).1]; exact h1, h2⟩
/-- A call by plain values that gives no block: the caller's rows stay its own. -/
theorem upon_flat {X : Cx} {n : Nat} {I J : Mem} {μ : Locs} {st st' : St} {a : Act} {w : World} {o : Oper} {g : FuncId} {vs : List PV} {v : GV} (hE : X.E = E) (hW : X.W0 = W0) (hr : RowsOk μ) (hp : PureFn P E W0 g vs v) (hf : flatG v = true) (hs : Sim X n I μ st a w) (hs' : Sim X n J μ st' a w) {as : Array Value}
    (hrun : (execOp a.eval o).run P w = (callFunc g as).run P w) (hl : as.size = vs.length) (ha : ∀ i, i < vs.length → RepP J (vs.getD i .any) (as.getD i undef)) :
    Upon P o a w fun x w' => ∃ J ν, NewI X I J ∧ (RowsOk ν ∧ Keep μ ν) ∧ Sim X n J ν st a w' ∧ RepG J ν v x := by
  refine Upon.meets hrun (hp.2 X J w as hE hW hs'.im hs'.bw (by rw [← hW]; exact hs'.cx.lowB) (by rw [← hW]; exact hs'.base) hl ha) ?_
  rintro e w' ⟨x, L, rfl, h1, h2, h3, h4, h5⟩
  obtain ⟨k1, k2⟩ := hs.pureCall (MemLe.refl I) (fun b o u hu => .inl hu) (hs.im.belowC h5) h5
  exact ⟨x, rfl, I, μ, k1, ⟨hr, Keep.refl μ⟩, k2, flatG_rep hf h1⟩

theorem evOp_inv (hE : EnvOk P E tB) {ρ : FuncId → Option (Callee R)} (hρ : RhoOk P E tB W0 ρ) {o : Oper} (hd : ∀ d, o.dst = some d → d < 1000) {st : St} {K : GV → St → Option R} (h : evOp E ρ o st K = some r) :
    ∃ v st', K v st' = some r ∧ OpDoes P E tB W0 o st v st' := by
  have hd0 : o.dst.getD 0 < 1000 := by
    cases hod : o.dst with
    | none => simp
    | some d => exact hd d hod
  have calm : evCalm E ρ o st (fun v => K v st) = some r → ∃ v st', K v st' = some r ∧ OpDoes P E tB W0 o st v st' := by
    intro h
    obtain ⟨v, h1, h2⟩ := evCalm_inv hE hρ h
    exact ⟨v, st, h1, h2.op⟩
  have later : ∀ {st1 : St} {K' : GV → St → Option R}, (∀ {X : Cx} {n : Nat} {I : Mem} {μ : Locs} {a : Act} {w : World}, X.E = E → Sim X n I μ st a w → Sim X n I μ st1 a w) → (∃ v st', K' v st' = some r ∧ OpDoes P E tB W0 o st1 v st') → ∃ v st', K' v st' = some r ∧ OpDoes P E tB W0 o st v st' := by
    rintro st1 K' h1 ⟨v, st', h2, h3⟩
    exact ⟨v, st', h2, fun {X n I μ a w} hX hB hW hr hs => h3 hX hB hW hr (h1 hX hs)⟩
  unfold evOp at h
  simp only at h
  split at h
  · rename_i x ho
    split at h
    · rename_i c hx
      split at h
      · rename_i e ht
        exact assign_inv hE hd0 ho hx ht h
      · cases h
    · refine ⟨_, st, h, ValDoes.op (run := fun a => pure (a.eval x)) (fun {X n I μ a w} hX hr hs => ⟨_, Sem.run_pure .., hX ▸ hs.evT o.type x⟩) fun a w y hy => ?_⟩
      simp only [Sem.run_pure, Result.ok.injEq, and_true] at hy
      simp only [execOp, ho, Sem.run_pure, hy]
  · rename_i t ho
    split at h
    · rename_i ht
      exact alloc_bld hd0 hE ho ht h
    · exact alloc_inv hE hd0 ho h
  · rename_i t x ho
    exact box_inv hE hd0 ho h
  · rename_i t len parts ho
    split at h
    · rename_i e ht
      exact later (fun hX hs => by subst hX; exact hs.foldAll _) (buildSlice_inv hE hd0 ho ht h)
    · cases h
  · rename_i t ad ho
    split at h
    · rename_i x hx
      exact ⟨_, _, h, openLoad_inv hE hd0 ho hx⟩
    · rename_i hx
      refine calm ?_
      unfold evCalm
      simp only [ho]
      exact h
  · rename_i t ad x ho
    obtain ⟨st', h1, h2⟩ := store2_inv (W0 := W0) hE ho h
    exact ⟨_, st', h1, h2⟩
  · rename_i t m k ok ho
    exact lookup_inv hE hd0 ho h
  · rename_i t m k x ho
    obtain ⟨st', h1, h2⟩ := mapSet_inv (W0 := W0) hE (.inl ho) h
    exact ⟨_, st', h1, h2⟩
  · rename_i t m k x ho
    obtain ⟨st', h1, h2⟩ := mapSet_inv (W0 := W0) hE (.inr ho) h
    exact ⟨_, st', h1, h2⟩
  · rename_i t m k ho
    exact mapEntry_inv hE ho h
  · rename_i t m s x ho
    obtain ⟨st', h1, h2⟩ := entryStore_inv (W0 := W0) hE ho h
    exact ⟨_, st', h1, h2⟩
  · rename_i t ho
    exact ⟨_, _, h, makeMap_inv hd0 ho⟩
  · rename_i t x ho
    cases hm : isMapT (E.ty t)
    · rw [hm] at h; cases h
    · rw [hm, cond_true] at h
      exact range_inv hE hd0 ho hm h
  · rename_i x ho
    exact next_inv hE ho h
  · rename_i x ho
    obtain ⟨v, h1, h2⟩ := entry_inv (W0 := W0) hE ho h
    exact ⟨v, st, h1, h2⟩
  · rename_i t n c ho
    exact makeSlice_inv hE hd0 ho h
  · rename_i s t x ho
    by_cases ht : isSliceT (E.ty t) = true
    · unfold evConv at h
      split at h
      · rename_i hk; rw [hk] at ht; cases ht
      · rename_i hk; rw [hk] at ht; cases ht
      · rename_i hk; rw [hk] at ht; cases ht
      · rename_i e hs0 hk
        split at h
        · rename_i he
          exact runes_inv hE hd0 ho hs0 hk he h
        · cases h
      · rename_i hk; rw [hk] at ht; cases ht
      · cases h
    · obtain ⟨v, h1, h2⟩ := evConv_inv hE (by simpa using ht) h
      refine ⟨v, st, h1, ValDoes.op h2 fun a w y hy => ?_⟩
      simp only [execOp, ho]
      exact run_value hy
  · rename_i args ts ho
    cases hsz2 : Nat.beq ts.size 2 && Nat.beq args.size 2
    · rw [hsz2] at h; cases h
    rw [hsz2, cond_true] at h
    have h' : evAppend E (o.dst.getD 0) st (ts.getD 0 0) (args.getD 0 (.const .nilIface)) (args.getD 1 (.const .nilIface)) (ts.getD 1 0) K = some r := by
      unfold evAppend2 at h
      split at h
      · rename_i q hq
        cases hd : isDeep (look st.h q)
        · rw [hd, cond_false] at h; exact h
        · rw [hd] at h; cases h
      · exact h
    exact append_inv hE hd0 ho (by rw [hsz2, cond_true]; exact h')
  · rename_i f args ts ho
    rw [nbeq] at h
    by_cases hsz : ts.size = args.size
    · simp only [hsz, decide_true, cond_true] at h
      split at h
      · rename_i g rs hf
        cases hbb : bnd g && !Nat.beq args.size 0
        · rw [hbb, cond_false] at h
          have hbn : bnd g = true → args.size = 0 := fun hb => by
            rw [hb, Bool.true_and, Bool.not_eq_false', nbeq, decide_eq_true_eq] at hbb
            exact hbb
          split at h
          · rename_i F hg
            have hp := hρ (unb g) _ hg
            split at h
            · obtain ⟨vs, st', h, hlen, hvs⟩ := wPures_inv h
              simp only [List.reverse_nil, List.nil_append] at h
              obtain ⟨v, h1, hfn⟩ := hp vs _ r h
              have go : ∀ {X : Cx} {n : Nat} {I : Mem} {μ : Locs} {a : Act} {w : World}, X.E = E → Sim X n I μ st a w → (execOp a.eval o).run P w = (callFunc (unb g) (args.map a.eval)).run P w ∧ ∃ J, NewI X I J ∧ Sim X n J μ st' a w ∧ (args.map a.eval).size = vs.length ∧ ∀ i, i < vs.length → RepP J (vs.getD i .any) ((args.map a.eval).getD i undef) := by
                intro X n I μ a w hX hs
                have hfv := hs.ev f
                rw [hf] at hfv
                obtain ⟨fs, cap, e1, _, e2, _⟩ := hfv
                simp only [Array.size_append, List.length_nil] at e2
                have q1 : fs = #[] := Array.eq_empty_of_size_eq_zero (by omega)
                have q2 : cap = #[] := Array.eq_empty_of_size_eq_zero (by omega)
                subst q1 q2
                have hrun := run_call (P := P) (w := w) ho e1
                rw [Array.append_empty, Array.empty_append] at hrun
                refine ⟨hrun, ?_⟩
                have hsf := hs.foldAll ((wArgs E st (ts.toList.zip args.toList)).flatMap GV.rows)
                rw [hX] at hsf
                obtain ⟨J, k1, k2, k3⟩ := hvs hX hsf
                have hl2 : vs.length = args.size := by rw [hlen]; simp [hsz]
                refine ⟨J, k1, k2, by simpa using hl2.symm, fun i hi => ?_⟩
                have hi' : i < args.size := by omega
                have e : (ts.toList.zip args.toList)[i]? = some (ts[i], args[i]) := by
                  rw [List.getElem?_zip_eq_some]
                  exact ⟨by simp, by simp [hi']⟩
                have := k3 i _ e
                have e' : (args.map a.eval).getD i undef = a.eval args[i] := by simp [Array.getD, hi']
                rw [e']
                exact this
              cases hfl : flatG v
              · rw [hfl, cond_false] at h1
                refine ⟨v, st', h1, fun {X n I μ a w} hX hB hW hr hs => ?_⟩
                obtain ⟨hrun, J, k1, k2, k3, k4⟩ := go hX hs
                refine (upon_call hX hW hr hfn k2 hrun k3 k4).mono ?_
                rintro x w' ⟨L, ν, m1, m2, m3, m4⟩
                exact ⟨L, ν, k1.trans m1, m2, m3, m4⟩
              · rw [hfl, cond_true] at h1
                refine ⟨v, st, h1, fun {X n I μ a w} hX hB hW hr hs => ?_⟩
                obtain ⟨hrun, J, k1, k2, k3, k4⟩ := go hX hs
                exact upon_flat hX hW hr hfn hfl hs k2 hrun k3 k4
            · cases h
          · rename_i F hg
            have hp := hρ (unb g) _ hg
            exact callHeap_inv hE ho hf hbn hsz hp h
          · cases h
        · rw [hbb] at h; cases h
      · cases h
    · simp [hsz] at h
  · exact calm h
end
end Go.Dip
end

/- An ideal semantics of the model's code, part 23: operations in their order. -/
section
set_option linter.unusedVariables false
set_option linter.unusedSimpArgs false
namespace Go.Dip
section
variable {R : Type} {r : R} {P : Program} {E : Env} {tB : TypeId} {W0 : World}

/-- A state that goes on, from some world: what follows it holds. -/
def Then (E : Env) (tB : TypeId) (W0 : World) (X : Cx) (n : Nat) (I : Mem) (μ : Locs) (st : St) (F : Act → World → Prop) : Prop :=
  ∀ (J : Mem) (ν : Locs) (a : Act) (w : World), NewI X I J → RowsOk ν → Keep μ ν → Sim X n J ν st a w → F a w

theorem Sim.put {X : Cx} {n : Nat} {I : Mem} {μ : Locs} {st : St} {a : Act} {w : World} (h : Sim X n I μ st a w) {dst : Option Nat} {v : GV} {x : Value} (hv : RepG I μ v x) (hd : okDst n dst = true) : Sim X n I μ (st.put dst v) (a.put dst x) w := by
  cases dst with
  | none => exact h
  | some d =>
    simp only [okDst, Bool.and_eq_true, Nat.blt_eq] at hd
    refine ⟨by simp [Act.put, h.size], by simp [Act.put, h.defers], ?_, h.h, h.im, h.bw, h.fr, h.cx, h.base⟩
    intro i u hu
    simp only [St.put, look_cons] at hu
    by_cases e : i = d
    · rw [if_pos e] at hu
      injection hu with hu
      subst hu e
      have hlt : i < a.tmps.size := by rw [h.size]; exact hd.1
      have : (a.put (some i) x).tmps.getD i undef = x := by simp [Act.put, Array.getD, hlt]
      rw [this]
      exact hv
    · rw [if_neg e] at hu
      have : (a.put (some d) x).tmps.getD i undef = a.tmps.getD i undef := by
        simp only [Act.put]
        rw [agetD, agetD, Array.toList_setIfInBounds]
        simp only [List.getD_eq_getElem?_getD, List.getElem?_set, show ¬ d = i from fun e' => e e'.symm, if_false]
      rw [this]
      exact h.t i u hu
theorem okDst_lt {n : Nat} {dst : Option Nat} (h : okDst n dst = true) : ∀ d, dst = some d → d < 1000 := by
  rintro d rfl
  simp only [okDst, Bool.and_eq_true, Nat.blt_eq] at h
  exact h.2

theorem splitB_inv {st : St} {x : Operand} {K : Bool → St → Option R} (h : splitB st x K = some r) : ∃ b st', K b st' = some r ∧ st.ev x = .pv (.bool b) ∧ (st' = st ∨ ∃ t, x = .tmp t ∧ st' = st.put (some t) (.pv (.bool b))) := by
  unfold splitB at h
  have h0 := wBool_inv h
  clear h
  obtain ⟨b, hb, h⟩ := h0
  split at h
  · rename_i t
    cases b
    · exact ⟨false, _, h, hb, .inr ⟨t, rfl, rfl⟩⟩
    · exact ⟨true, _, h, hb, .inr ⟨t, rfl, rfl⟩⟩
  · cases b
    · exact ⟨false, _, h, hb, .inl rfl⟩
    · exact ⟨true, _, h, hb, .inl rfl⟩
/-- A condition that is told by its own value. -/
theorem Sim.split {X : Cx} {n : Nat} {I : Mem} {μ : Locs} {st st' : St} {a : Act} {w : World} {x : Operand} {b : Bool} (h : Sim X n I μ st a w) (hb : st.ev x = .pv (.bool b)) (hst : st' = st ∨ ∃ t, x = .tmp t ∧ st' = st.put (some t) (.pv (.bool b))) :
    Sim X n I μ st' a w ∧ a.eval x = .bool b := by
  have hv := rep_bool (hb ▸ h.ev x)
  refine ⟨?_, hv⟩
  rcases hst with rfl | ⟨t, rfl, rfl⟩
  · exact h
  · refine ⟨h.size, h.defers, ?_, h.h, h.im, h.bw, h.fr, h.cx, h.base⟩
    intro i u hu
    simp only [St.put, look_cons] at hu
    by_cases e : i = t
    · rw [if_pos e] at hu
      injection hu with hu
      subst hu e
      have : a.tmps.getD i undef = .bool b := hv
      rw [this]
      exact RepP.bool b
    · rw [if_neg e] at hu
      exact h.t i u hu

theorem yielded_eq {all : List Oper} {ops : Array Oper} (ha : all = ops.toList) {g : Nat} {t : Nat} (ht : dstOf all g = some t) {a : Act} {b : Bool} (hv : a.eval (.tmp t) = .bool b) : yielded ops a.tmps g = some b := by
  subst ha
  unfold dstOf at ht
  split at ht
  · rename_i o ho
    have ho' : ops[g]? = some o := by simpa using ho
    have hv' : a.tmps.getD t undef = .bool b := hv
    unfold yielded
    rw [ho']
    simp only [Option.bind_some, ht]
    have hlt : t < a.tmps.size := by
      rcases Nat.lt_or_ge t a.tmps.size with h | h
      · exact h
      · simp [Array.getD, Nat.not_lt.2 h, undef] at hv'
    have e : a.tmps[t]? = some (.bool b) := by
      rw [← hv']
      simp [Array.getD, hlt]
    rw [e]
  · cases ht

theorem isUndef_inv {v : GV} (h : isUndef v = true) : v = .pv .gone := by
  unfold isUndef at h
  split at h
  · rfl
  · cases h
theorem yielded_gone {all : List Oper} {ops : Array Oper} (ha : all = ops.toList) {g : Nat} {t : Nat} (ht : dstOf all g = some t) {a : Act} (hv : a.eval (.tmp t) = undef) : yielded ops a.tmps g = none := by
  subst ha
  unfold dstOf at ht
  split at ht
  · rename_i o ho
    have ho' : ops[g]? = some o := by simpa using ho
    have hv' : a.tmps.getD t undef = undef := hv
    unfold yielded
    rw [ho']
    simp only [Option.bind_some, ht]
    rcases Nat.lt_or_ge t a.tmps.size with hlt | hge
    · have e : a.tmps[t]? = some undef := by
        rw [← hv']
        simp [Array.getD, hlt]
      rw [e]
      rfl
    · have e : a.tmps[t]? = none := by simp [hge]
      rw [e]
  · cases ht
theorem rep_gone {I : Mem} {μ : Locs} {x : Value} (h : RepG I μ (.pv .gone) x) : x = undef := by
  have h' : RepP I .gone x := h
  cases h'; rfl

theorem Upon.wpOp {ops : Array Oper} {i : Nat} {o : Oper} {a : Act} {w : World} {Post : Value → World → Prop} {K : Act → World → Prop} {Q : Exit → Act → World → Prop} (ho : ops[i]? = some o) (hw : Region.wanted o (yielded ops a.tmps) = true)
    (h : Upon P o a w Post) (hk : ∀ v w', Post v w' → K (a.put o.dst v) w') : wpOp P ops Q i K a w := by
  unfold Go.wpOp
  simp only [ho, hw, if_true]
  exact .inl (h K Q hk)
theorem wpOp_skip {ops : Array Oper} {i : Nat} {o : Oper} {a : Act} {w : World} {K : Act → World → Prop} {Q : Exit → Act → World → Prop} (ho : ops[i]? = some o) (hw : Region.wanted o (yielded ops a.tmps) = false)
    (hk : K (a.put o.dst undef) w) : wpOp P ops Q i K a w := by
  unfold Go.wpOp
  simp only [ho, hw]
  exact hk

/-- Operations, one after the other. -/
theorem evOps_inv (hE : EnvOk P E tB) {ρ : FuncId → Option (Callee R)} (hρ : RhoOk P E tB W0 ρ) {n : Nat} {ops : Array Oper} : ∀ {l : List Oper} {k : Nat} {st : St} {K : St → Option R}, l = ops.toList.drop k → evOps E n ρ ops.toList l st K = some r →
    ∃ st', K st' = some r ∧ ∀ {X : Cx} {I : Mem} {μ : Locs} {a : Act} {w : World} {Q : Exit → Act → World → Prop}, X.E = E → X.tB = tB → X.W0 = W0 → RowsOk μ → Sim X n I μ st a w →
      Then E tB W0 X n I μ st' (Q .normal) → wpOps P ops Q (List.range' k (ops.size - k)) a w
  | [], k, st, K, hl, h => by
    refine ⟨st, h, fun {X I μ a w Q} hX hB hW hr hs hQ => ?_⟩
    have hk : ops.size - k = 0 := by
      have := congrArg List.length hl
      simp at this
      omega
    rw [hk]
    exact hQ I μ a w (NewI.refl X I) hr (Keep.refl μ) hs
  | o :: l, k, st, K, hl, h => by
    have hkl : k < ops.size := by
      rcases Nat.lt_or_ge k ops.size with h' | h'
      · exact h'
      · rw [List.drop_eq_nil_of_le (by simpa using h')] at hl; cases hl
    have hdrop : ops.toList.drop k = ops.toList[k] :: ops.toList.drop (k + 1) := by rw [List.drop_eq_getElem_cons (by simpa using hkl)]
    rw [hdrop] at hl
    injection hl with ho hl
    have ho' : ops[k]? = some o := by rw [ho]; simp [hkl]
    have hrange : List.range' k (ops.size - k) = k :: List.range' (k + 1) (ops.size - (k + 1)) := by
      have : ops.size - k = (ops.size - (k + 1)) + 1 := by omega
      rw [this, List.range'_succ]
    simp only [evOps] at h
    cases hdst : okDst n o.dst
    · simp [hdst] at h
    · simp only [hdst, cond_true] at h
      -- what a wanted operation does
      have runs : ∀ {st0 : St}, (evOp E ρ o st0 fun v st => evOps E n ρ ops.toList l (st.put o.dst v) K) = some r → ∃ st', K st' = some r ∧ ∀ {X : Cx} {I : Mem} {μ : Locs} {a : Act} {w : World} {Q : Exit → Act → World → Prop}, X.E = E → X.tB = tB → X.W0 = W0 → RowsOk μ → Sim X n I μ st0 a w →
          Region.wanted o (yielded ops a.tmps) = true → Then E tB W0 X n I μ st' (Q .normal) → wpOps P ops Q (List.range' k (ops.size - k)) a w := by
        intro st0 h
        obtain ⟨v, st1, h, hd⟩ := evOp_inv hE hρ (okDst_lt hdst) h
        obtain ⟨st2, h, hrest⟩ := evOps_inv hE hρ hl h
        refine ⟨st2, h, fun {X I μ a w Q} hX hB hW hr hs hwant hQ => ?_⟩
        rw [hrange, wpOps_cons]
        refine (hd hX hB hW hr hs).wpOp ho' hwant ?_
        rintro x w' ⟨J, ν, k1, ⟨k2, k2'⟩, k3, k4⟩
        exact hrest hX hB hW k2 (k3.put k4 hdst) fun L κ a' w'' m1 m2 m3 m4 => hQ L κ a' w'' (k1.trans m1) m2 (k2'.trans m3) m4
      split at h
      · rename_i hg
        obtain ⟨st', h1, h2⟩ := runs h
        exact ⟨st', h1, fun hX hB hW hr hs hQ => h2 hX hB hW hr hs (by simp [Region.wanted, hg]) hQ⟩
      · rename_i g hg
        split at h
        · rename_i t ht
          split at h
          · rename_i hu
            have hgone := isUndef_inv hu
            obtain ⟨st2, h1, hrest⟩ := evOps_inv hE hρ hl h
            refine ⟨st2, h1, fun {X I μ a w Q} hX hB hW hr hs hQ => ?_⟩
            have hev : a.eval (.tmp t) = undef := by
              have := hs.get t
              rw [hgone] at this
              exact rep_gone this
            rw [hrange, wpOps_cons]
            refine wpOp_skip ho' ?_ (hrest hX hB hW hr (hs.put RepP.gone hdst) hQ)
            simp only [Region.wanted, hg, yielded_gone rfl ht hev]
            simp
          obtain ⟨b, st1, h, hb, hst⟩ := splitB_inv h
          split at h
          · rename_i hbg
            obtain ⟨st', h1, h2⟩ := runs h
            refine ⟨st', h1, fun {X I μ a w Q} hX hB hW hr hs hQ => ?_⟩
            obtain ⟨hs1, hv⟩ := hs.split hb hst
            refine h2 hX hB hW hr hs1 ?_ hQ
            simp only [Region.wanted, hg, yielded_eq rfl ht hv]
            have : b = g.2 := by simpa using hbg
            simp [this]
          · rename_i hbg
            obtain ⟨st2, h1, hrest⟩ := evOps_inv hE hρ hl h
            refine ⟨st2, h1, fun {X I μ a w Q} hX hB hW hr hs hQ => ?_⟩
            obtain ⟨hs1, hv⟩ := hs.split hb hst
            rw [hrange, wpOps_cons]
            refine wpOp_skip ho' ?_ (hrest hX hB hW hr (hs1.put RepP.gone hdst) hQ)
            simp only [Region.wanted, hg, yielded_eq rfl ht hv]
            have : ¬ b = g.2 := by simpa using hbg
            simp [this]
        · cases h
end
end Go.Dip
end

/- An ideal semantics of the model's code, part 24: states and what operations change in them, in any order. -/
section
set_option linter.unusedVariables false
set_option linter.unusedSimpArgs false
namespace Go.Dip

/-- Striking several keys. -/
def CV.strikes (zs : List Nat) (v : CV) : CV := zs.foldl (fun v r => v.strike r) v
def GV.strikes (zs : List Nat) (v : GV) : GV := zs.foldl (fun v r => v.map (CV.strike r)) v

theorem CV.strike_comm (r q : Nat) (v : CV) : (v.strike r).strike q = (v.strike q).strike r := by
  cases v with
  | orow a => simp only [CV.strike]; cases h1 : Nat.beq a r <;> cases h2 : Nat.beq a q <;> simp [CV.strike, h1, h2]
  | osub a b c => simp only [CV.strike]; cases h1 : Nat.beq a r <;> cases h2 : Nat.beq a q <;> simp [CV.strike, h1, h2]
  | ptr a o => simp only [CV.strike]; cases h1 : Nat.beq a r <;> cases h2 : Nat.beq a q <;> simp [CV.strike, h1, h2]
  | ptrE a i o => simp only [CV.strike]; cases h1 : Nat.beq a r <;> cases h2 : Nat.beq a q <;> simp [CV.strike, h1, h2]
  | fn f rs => simp only [CV.strike]; cases h1 : rs.any (Nat.beq r ·) <;> cases h2 : rs.any (Nat.beq q ·) <;> simp [CV.strike, h1, h2]
  | omap a => simp only [CV.strike]; cases h1 : Nat.beq a r <;> cases h2 : Nat.beq a q <;> simp [CV.strike, h1, h2]
  | _ => rfl
theorem GV.strike_comm (r q : Nat) (v : GV) : (v.map (CV.strike r)).map (CV.strike q) = (v.map (CV.strike q)).map (CV.strike r) := by
  cases v <;> simp [GV.map, CV.strike_comm r q]
theorem Ob.strike_comm (r q : Nat) (v : Ob) : (v.map (CV.strike r)).map (CV.strike q) = (v.map (CV.strike q)).map (CV.strike r) := by
  cases v with
  | deep e es ho => cases ho <;> simp [Ob.map, CV.strike_comm r q]
  | tab kvs ho => cases ho <;> simp [Ob.map, CV.strike_comm r q]
  | _ => simp [Ob.map, CV.strike_comm r q]
theorem foldl_comm1 {α : Type} (f : Nat → α → α) (hf : ∀ r q x, f q (f r x) = f r (f q x)) : ∀ (zs : List Nat) (r : Nat) (x : α), zs.foldl (fun x r => f r x) (f r x) = f r (zs.foldl (fun x r => f r x) x)
  | [], r, x => rfl
  | z :: zs, r, x => by
    simp only [List.foldl_cons]
    rw [hf r z x, foldl_comm1 f hf zs r (f z x)]
theorem foldl_comm {α : Type} (f : Nat → α → α) (hf : ∀ r q x, f q (f r x) = f r (f q x)) (ys : List Nat) : ∀ (zs : List Nat) (x : α), zs.foldl (fun x r => f r x) (ys.foldl (fun x r => f r x) x) = ys.foldl (fun x r => f r x) (zs.foldl (fun x r => f r x) x)
  | [], x => rfl
  | z :: zs, x => by
    simp only [List.foldl_cons]
    rw [← foldl_comm1 f hf ys z x, foldl_comm f hf ys zs (f z x)]
theorem GV.strikes_comm (ys zs : List Nat) (v : GV) : (v.strikes ys).strikes zs = (v.strikes zs).strikes ys :=
  foldl_comm (fun r (v : GV) => v.map (CV.strike r)) (fun r q x => GV.strike_comm r q x) ys zs v
theorem Ob.strikes_comm (ys zs : List Nat) (v : Ob) : (v.strikes ys).strikes zs = (v.strikes zs).strikes ys :=
  foldl_comm (fun r (v : Ob) => v.map (CV.strike r)) (fun r q x => Ob.strike_comm r q x) ys zs v
theorem GV.strikes_append (ys zs : List Nat) (v : GV) : v.strikes (ys ++ zs) = (v.strikes ys).strikes zs := by simp [GV.strikes]
theorem Ob.strikes_append (ys zs : List Nat) (v : Ob) : v.strikes (ys ++ zs) = (v.strikes ys).strikes zs := by simp [Ob.strikes]

theorem CV.strike_id {r : Nat} {v : CV} (h : r ∉ v.keys) : v.strike r = v := by
  cases v with
  | orow q => simp [CV.keys] at h; simp [CV.strike, nbeq, show ¬ q = r from fun e => h e.symm]
  | osub q a b => simp [CV.keys] at h; simp [CV.strike, nbeq, show ¬ q = r from fun e => h e.symm]
  | ptr q o => simp [CV.keys] at h; simp [CV.strike, nbeq, show ¬ q = r from fun e => h e.symm]
  | ptrE q i o => simp [CV.keys] at h; simp [CV.strike, nbeq, show ¬ q = r from fun e => h e.symm]
  | fn f rs =>
    simp only [CV.keys] at h
    have : rs.any (Nat.beq r ·) = false := by
      rw [List.any_eq_false]
      intro x hx
      rw [nbeq, decide_eq_true_eq]
      exact fun e => h (e ▸ hx)
    simp [CV.strike, this]
  | omap q => simp [CV.keys] at h; simp [CV.strike, nbeq, show ¬ q = r from fun e => h e.symm]
  | _ => rfl
theorem map_strike_id {r : Nat} {cs : List CV} (h : r ∉ cs.flatMap CV.keys) : cs.map (CV.strike r) = cs := by
  rw [List.mem_flatMap] at h
  conv => rhs; rw [← List.map_id cs]
  apply List.map_congr_left
  intro v hv
  exact CV.strike_id fun hr => h ⟨v, hv, hr⟩
theorem GV.strike_id {r : Nat} {v : GV} (h : r ∉ v.keys) : v.map (CV.strike r) = v := by
  cases v with
  | c v => simp only [GV.map, CV.strike_id h]
  | agg cs => simp only [GV.map, map_strike_id h]
  | tup cs => simp only [GV.map, map_strike_id h]
theorem Ob.strike_id {r : Nat} {o : Ob} (h : r ∉ o.keys) : o.map (CV.strike r) = o := by
  cases o with
  | box cs => simp only [Ob.map, map_strike_id h]
  | deep e es ho =>
    cases ho with
    | none => rfl
    | some x => simp only [Ob.map, Option.map_some, CV.strike_id (v := x.2.2) h]
  | tab kvs ho =>
    cases ho with
    | none => rfl
    | some x => simp only [Ob.map, Option.map_some, CV.strike_id (v := x.2) h]
  | _ => rfl
theorem GV.strikes_id : ∀ {zs : List Nat} {v : GV}, (∀ z, z ∈ zs → z ∉ v.keys) → v.strikes zs = v
  | [], v, _ => rfl
  | z :: zs, v, h => by
    simp only [GV.strikes, List.foldl_cons]
    rw [GV.strike_id (h z (by simp))]
    exact GV.strikes_id fun y hy => h y (by simp [hy])
theorem Ob.strikes_id : ∀ {zs : List Nat} {v : Ob}, (∀ z, z ∈ zs → z ∉ v.keys) → v.strikes zs = v
  | [], v, _ => rfl
  | z :: zs, v, h => by
    simp only [Ob.strikes, List.foldl_cons]
    rw [Ob.strike_id (h z (by simp))]
    exact Ob.strikes_id fun y hy => h y (by simp [hy])
theorem RepG.strikes {I : Mem} {μ : Locs} {x : Value} : ∀ (zs : List Nat) {v : GV}, RepG I μ v x → RepG I μ (v.strikes zs) x
  | [], v, h => h
  | z :: zs, v, h => RepG.strikes zs (v := v.map (CV.strike z)) (h.strike z)
theorem ObLe.strikes : ∀ (zs : List Nat) (o : Ob), ObLe o (o.strikes zs)
  | [], o => .refl o
  | z :: zs, o => (ObLe.strike z o).trans (ObLe.strikes zs _)

/-! Looking into a changed state. -/
theorem look_strikeAll_t : ∀ (zs : List Nat) (st : St) (i : Nat), look (strikeAll zs st).t i = (look st.t i).map (GV.strikes zs)
  | [], st, i => by simp [strikeAll, GV.strikes]; cases look st.t i <;> rfl
  | z :: zs, st, i => by
    simp only [strikeAll, List.foldl_cons]
    have := look_strikeAll_t zs (st.strike z) i
    simp only [strikeAll] at this
    rw [this, look_strike_t]
    cases look st.t i <;> rfl
theorem look_strikeAll_h : ∀ (zs : List Nat) (st : St) (q : Nat), look (strikeAll zs st).h q = if q ∈ zs then none else (look st.h q).map (Ob.strikes zs)
  | [], st, q => by simp [strikeAll, Ob.strikes]; cases look st.h q <;> rfl
  | z :: zs, st, q => by
    simp only [strikeAll, List.foldl_cons]
    have := look_strikeAll_h zs (st.strike z) q
    simp only [strikeAll] at this
    rw [this, look_strike]
    by_cases h1 : q ∈ zs
    · simp [h1]
    · by_cases h2 : q = z
      · simp [h2]
      · simp only [h1, if_false, h2, List.mem_cons, or_self]
        cases look st.h q <;> rfl
theorem look_dropAll' {α : Type} : ∀ (ks : List Nat) (l : List (Nat × α)) (q : Nat), look (dropAll ks l) q = if q ∈ ks then none else look l q
  | [], l, q => by simp [dropAll]
  | r :: ks, l, q => by
    simp only [dropAll, List.foldl_cons]
    have := look_dropAll' ks (Dip.drop r l) q
    simp only [dropAll] at this
    rw [this, look_drop]
    by_cases h1 : q ∈ ks
    · simp [h1]
    · by_cases h2 : q = r
      · simp [h2]
      · simp [h1, h2]
theorem Rec.look_t (c : Rec) (st : St) (i : Nat) : look (c.upd st).t i = if c.dst = some i then some c.v else (look st.t i).map (GV.strikes c.del.zs) := by
  have h : look (c.del.app st).t i = (look st.t i).map (GV.strikes c.del.zs) := by
    simp only [Delta.app]
    rw [look_strikeAll_t]
  unfold Rec.upd
  cases hd : c.dst with
  | none => simp only [St.put, reduceCtorEq, if_false]; exact h
  | some d =>
    simp only [St.put, look_cons, Option.some.injEq]
    by_cases e : i = d
    · simp [e]
    · rw [if_neg e, if_neg (fun e' => e e'.symm)]
      exact h
theorem Rec.look_h (c : Rec) (st : St) (q : Nat) : look (c.upd st).h q = (look c.del.add q).or (if q ∈ c.del.zs ∨ q ∈ c.del.ds then none else (look st.h q).map (Ob.strikes c.del.zs)) := by
  have h : look (c.del.app st).h q = (look c.del.add q).or (if q ∈ c.del.zs ∨ q ∈ c.del.ds then none else (look st.h q).map (Ob.strikes c.del.zs)) := by
    simp only [Delta.app]
    rw [look_append, look_strikeAll_h]
    congr 1
    by_cases h1 : q ∈ c.del.zs
    · simp [h1]
    · simp only [h1, if_false, false_or]
      rw [look_dropAll']
      by_cases h2 : q ∈ c.del.ds <;> simp [h2]
  unfold Rec.upd
  cases hd : c.dst <;> exact h

theorem Rec.wr_none {c : Rec} {q : Nat} (h : q ∉ c.wr) : q ∉ c.del.zs ∧ q ∉ c.del.ds ∧ look c.del.add q = none := by
  simp only [Rec.wr, List.mem_append, not_or] at h
  refine ⟨h.1, h.2.1, ?_⟩
  cases hl : look c.del.add q with
  | none => rfl
  | some o => exact absurd (List.mem_map.2 ⟨(q, o), look_mem _ _ _ hl, rfl⟩) h.2.2
theorem Rec.said_v {c : Rec} {zs : List Nat} (h : ∀ z, z ∈ zs → z ∉ c.said) : c.v.strikes zs = c.v :=
  GV.strikes_id fun z hz hk => h z hz (by simp only [Rec.said, List.mem_append]; exact .inl hk)
theorem Rec.said_add {c : Rec} {zs : List Nat} (h : ∀ z, z ∈ zs → z ∉ c.said) {q : Nat} {o : Ob} (ho : look c.del.add q = some o) : o.strikes zs = o :=
  Ob.strikes_id fun z hz hk => h z hz (by simp only [Rec.said, List.mem_append, List.mem_flatMap]; exact .inr ⟨(q, o), look_mem _ _ _ ho, hk⟩)

/-- States that look the same. -/
def Eqv (s s' : St) : Prop := (∀ i, look s.t i = look s'.t i) ∧ ∀ q, look s.h q = look s'.h q
theorem Eqv.refl (s : St) : Eqv s s := ⟨fun _ => rfl, fun _ => rfl⟩
theorem Eqv.symm {s s' : St} (h : Eqv s s') : Eqv s' s := ⟨fun i => (h.1 i).symm, fun q => (h.2 q).symm⟩
theorem Eqv.trans {a b c : St} (h : Eqv a b) (k : Eqv b c) : Eqv a c := ⟨fun i => (h.1 i).trans (k.1 i), fun q => (h.2 q).trans (k.2 q)⟩
theorem Eqv.upd {s s' : St} (h : Eqv s s') (c : Rec) : Eqv (c.upd s) (c.upd s') :=
  ⟨fun i => by rw [Rec.look_t, Rec.look_t, h.1 i], fun q => by rw [Rec.look_h, Rec.look_h, h.2 q]⟩
theorem Sim.eqv {X : Cx} {n : Nat} {I : Mem} {μ : Locs} {s s' : St} {a : Act} {w : World} (h : Sim X n I μ s a w) (e : Eqv s s') : Sim X n I μ s' a w := by
  obtain ⟨β, hβ⟩ := h.h
  exact ⟨h.size, h.defers, fun i v hv => h.t i v (by rw [e.1 i]; exact hv), ⟨β, hβ.sub (fun r o ho => ⟨o, by rw [e.2 r]; exact ho, hβ.ok r o (by rw [e.2 r]; exact ho), rfl, rfl⟩) (fun _ _ _ _ _ _ _ h => h) (fun _ h => h)⟩, h.im, h.bw, h.fr, h.cx, h.base⟩

/-- Two operations that do not meet. -/
structure Apart (c d : Rec) : Prop where
  dst : ∀ i, c.dst = some i → d.dst ≠ some i
  said1 : ∀ z, z ∈ c.del.zs → z ∉ d.said
  said2 : ∀ z, z ∈ d.del.zs → z ∉ c.said
  wr : ∀ z, z ∈ c.wr → z ∉ d.wr
theorem Apart.symm {c d : Rec} (h : Apart c d) : Apart d c := ⟨fun i h1 h2 => h.dst i h2 h1, h.said2, h.said1, fun z h1 h2 => h.wr z h2 h1⟩
theorem Rec.zs_wr {c : Rec} {z : Nat} (h : z ∈ c.del.zs) : z ∈ c.wr := by simp only [Rec.wr, List.mem_append]; exact .inl h
theorem Apart.comm {c d : Rec} (h : Apart c d) (s : St) : Eqv (c.upd (d.upd s)) (d.upd (c.upd s)) := by
  refine ⟨fun i => ?_, fun q => ?_⟩
  · rw [Rec.look_t, Rec.look_t, Rec.look_t, Rec.look_t]
    by_cases h1 : c.dst = some i
    · rw [if_pos h1, if_neg (h.dst i h1), if_pos h1]
      simp only [Option.map_some]
      rw [Rec.said_v fun z hz => h.said2 z hz]
    · rw [if_neg h1, if_neg h1]
      by_cases h2 : d.dst = some i
      · rw [if_pos h2, if_pos h2]
        simp only [Option.map_some]
        rw [Rec.said_v fun z hz => h.said1 z hz]
      · rw [if_neg h2, if_neg h2]
        cases look s.t i with
        | none => rfl
        | some v => simp only [Option.map_some]; rw [GV.strikes_comm]
  · rw [Rec.look_h, Rec.look_h, Rec.look_h, Rec.look_h]
    by_cases h1 : q ∈ c.wr
    · have h2 := h.wr q h1
      obtain ⟨k1, k2, k3⟩ := Rec.wr_none h2
      simp only [k1, k2, k3, or_self, if_false, Option.none_or]
      cases ha : look c.del.add q with
      | some o =>
        simp only [Option.some_or, Option.map_some]
        rw [Rec.said_add (fun z hz => h.said2 z hz) ha]
      | none =>
        simp only [Option.none_or]
        by_cases h3 : q ∈ c.del.zs ∨ q ∈ c.del.ds
        · rw [if_pos h3, if_pos h3]; rfl
        · simp only [Rec.wr, List.mem_append] at h1
          rcases h1 with h1 | h1 | h1
          · exact absurd (.inl h1) h3
          · exact absurd (.inr h1) h3
          · exfalso
            obtain ⟨x, hx, rfl⟩ := List.mem_map.1 h1
            have : ∀ (l : List (Nat × Ob)), x ∈ l → look l x.1 ≠ none := by
              intro l
              induction l with
              | nil => intro h; simp at h
              | cons y l ih =>
                intro h
                rw [look_cons]
                by_cases e : x.1 = y.1
                · simp [e]
                · rw [if_neg e]
                  rcases List.mem_cons.1 h with e' | h
                  · exact absurd (by rw [e']) e
                  · exact ih h
            exact this _ hx ha
    · obtain ⟨k1, k2, k3⟩ := Rec.wr_none h1
      simp only [k1, k2, k3, or_self, if_false, Option.none_or]
      cases ha : look d.del.add q with
      | some o =>
        simp only [Option.some_or, Option.map_some]
        rw [Rec.said_add (fun z hz => h.said1 z hz) ha]
      | none =>
        simp only [Option.none_or]
        by_cases h3 : q ∈ d.del.zs ∨ q ∈ d.del.ds
        · rw [if_pos h3, if_pos h3]; rfl
        · rw [if_neg h3, if_neg h3]
          cases look s.h q with
          | none => rfl
          | some o => simp only [Option.map_some]; rw [Ob.strikes_comm]

/-- A state that says no less, but for what is struck. -/
def Sub (S s : St) : Prop := (∀ i v, look s.t i = some v → ∃ u zs, look S.t i = some u ∧ v = u.strikes zs) ∧ ∀ q o, look s.h q = some o → ∃ p zs, look S.h q = some p ∧ o = p.strikes zs
theorem Sub.of_eqv {S S' s : St} (h : Sub S s) (e : Eqv S S') : Sub S' s :=
  ⟨fun i v hv => by obtain ⟨u, zs, h1, h2⟩ := h.1 i v hv; exact ⟨u, zs, by rw [← e.1 i]; exact h1, h2⟩,
   fun q o ho => by obtain ⟨p, zs, h1, h2⟩ := h.2 q o ho; exact ⟨p, zs, by rw [← e.2 q]; exact h1, h2⟩⟩
theorem Sim.sub {X : Cx} {n : Nat} {I : Mem} {μ : Locs} {S s : St} {a : Act} {w : World} (h : Sim X n I μ S a w) (hs : Sub S s) : Sim X n I μ s a w := by
  obtain ⟨β, hβ⟩ := h.h
  refine ⟨h.size, h.defers, fun i v hv => ?_, ⟨β, hβ.sub (fun r o ho => ?_) (fun _ _ _ _ _ _ _ h => h) (fun _ h => h)⟩, h.im, h.bw, h.fr, h.cx, h.base⟩
  · obtain ⟨u, zs, h1, rfl⟩ := hs.1 i v hv
    exact (h.t i u h1).strikes zs
  · obtain ⟨p, zs, h1, rfl⟩ := hs.2 r o ho
    exact ⟨p, h1, (ObLe.strikes zs p).ok (hβ.ok r p h1), (ObLe.strikes zs p).isBld, (ObLe.strikes zs p).isByte _⟩

/-- Of two walks, the second with operations more. -/
structure Rel (zs ds ws : List Nat) (S S' : St) : Prop where
  t : ∀ i, i ∉ ds → ∀ v, look S'.t i = some v → ∃ u, look S.t i = some u ∧ v = u.strikes zs
  h : ∀ q, q ∉ ws → ∀ o, look S'.h q = some o → ∃ p, look S.h q = some p ∧ o = p.strikes zs
theorem Rel.refl (S : St) : Rel [] [] [] S S := ⟨fun i _ v h => ⟨v, h, rfl⟩, fun q _ o h => ⟨o, h, rfl⟩⟩
def Rec.dsts (c : Rec) : List Nat := match c.dst with
  | some d => [d]
  | none => []
theorem Rel.more {zs ds ws : List Nat} {S S' : St} (h : Rel zs ds ws S S') (c : Rec) : Rel (zs ++ c.del.zs) (c.dsts ++ ds) (c.wr ++ ws) S (c.upd S') := by
  refine ⟨fun i hi v hv => ?_, fun q hq o ho => ?_⟩
  · simp only [List.mem_append, not_or] at hi
    rw [Rec.look_t, if_neg (by
      intro e
      apply hi.1
      simp [Rec.dsts, e])] at hv
    obtain ⟨v0, h1, rfl⟩ := Option.map_eq_some_iff.1 hv
    obtain ⟨u, h2, rfl⟩ := h.t i hi.2 v0 h1
    exact ⟨u, h2, by rw [GV.strikes_append]⟩
  · simp only [List.mem_append, not_or] at hq
    obtain ⟨k1, k2, k3⟩ := Rec.wr_none hq.1
    rw [Rec.look_h, k3] at ho
    simp only [k1, k2, or_self, if_false, Option.none_or] at ho
    obtain ⟨o0, h1, rfl⟩ := Option.map_eq_some_iff.1 ho
    obtain ⟨p, h2, rfl⟩ := h.h q hq.2 o0 h1
    exact ⟨p, h2, by rw [Ob.strikes_append]⟩
theorem Rel.both {zs ds ws : List Nat} {S S' : St} (h : Rel zs ds ws S S') (c : Rec) (hz : ∀ z, z ∈ zs → z ∉ c.said) : Rel zs ds ws (c.upd S) (c.upd S') := by
  refine ⟨fun i hi v hv => ?_, fun q hq o ho => ?_⟩
  · rw [Rec.look_t] at hv ⊢
    by_cases e : c.dst = some i
    · rw [if_pos e] at hv ⊢
      injection hv with hv
      subst hv
      exact ⟨_, rfl, (Rec.said_v hz).symm⟩
    · rw [if_neg e] at hv ⊢
      obtain ⟨v0, h1, rfl⟩ := Option.map_eq_some_iff.1 hv
      obtain ⟨u, h2, rfl⟩ := h.t i hi v0 h1
      exact ⟨_, by rw [h2]; rfl, GV.strikes_comm _ _ _⟩
  · rw [Rec.look_h] at ho ⊢
    cases ha : look c.del.add q with
    | some o' =>
      rw [ha] at ho
      simp only [Option.some_or, Option.some.injEq] at ho
      subst ho
      exact ⟨_, rfl, (Rec.said_add hz ha).symm⟩
    | none =>
      rw [ha] at ho
      simp only [Option.none_or] at ho ⊢
      by_cases e : q ∈ c.del.zs ∨ q ∈ c.del.ds
      · rw [if_pos e] at ho; cases ho
      · rw [if_neg e] at ho ⊢
        obtain ⟨o0, h1, rfl⟩ := Option.map_eq_some_iff.1 ho
        obtain ⟨p, h2, rfl⟩ := h.h q hq o0 h1
        exact ⟨_, by rw [h2]; rfl, Ob.strikes_comm _ _ _⟩
end Go.Dip
end

/- An ideal semantics of the model's code, part 25: operations in any order that their edges allow. -/
section
set_option linter.unusedVariables false
set_option linter.unusedSimpArgs false
namespace Go.Dip

/-- An operation that a footprint does not see. -/
structure Free (c : Rec) (s : St) : Prop where
  t : ∀ i, c.dst = some i → look s.t i = none
  h : ∀ z, z ∈ c.wr → look s.h z = none
  said : ∀ z, z ∈ c.del.zs → (∀ i v, look s.t i = some v → z ∉ v.keys) ∧ ∀ q o, look s.h q = some o → z ∉ o.keys
theorem GV.strikes_of (zs ys : List Nat) {u v : GV} (h : v = u.strikes zs) (hk : ∀ z, z ∈ ys → z ∉ v.keys) : v = (u.strikes ys).strikes zs := by
  rw [GV.strikes_comm, ← h, GV.strikes_id hk]
theorem Ob.strikes_of (zs ys : List Nat) {u v : Ob} (h : v = u.strikes zs) (hk : ∀ z, z ∈ ys → z ∉ v.keys) : v = (u.strikes ys).strikes zs := by
  rw [Ob.strikes_comm, ← h, Ob.strikes_id hk]
theorem Sub.upd {S s : St} (h : Sub S s) {c : Rec} (hf : Free c s) : Sub (c.upd S) s := by
  refine ⟨fun i v hv => ?_, fun q o ho => ?_⟩
  · obtain ⟨u, zs, h1, h2⟩ := h.1 i v hv
    rw [Rec.look_t]
    by_cases e : c.dst = some i
    · rw [hf.t i e] at hv; cases hv
    · rw [if_neg e, h1]
      exact ⟨_, zs, rfl, GV.strikes_of zs _ h2 fun z hz => (hf.said z hz).1 i v hv⟩
  · obtain ⟨p, zs, h1, h2⟩ := h.2 q o ho
    have hq : q ∉ c.wr := fun hm => by rw [hf.h q hm] at ho; cases ho
    obtain ⟨k1, k2, k3⟩ := Rec.wr_none hq
    rw [Rec.look_h, k3]
    simp only [k1, k2, or_self, if_false, Option.none_or]
    rw [h1]
    exact ⟨_, zs, rfl, Ob.strikes_of zs _ h2 fun z hz => (hf.said z hz).2 q o ho⟩

/-- Those of some operations that are in L, in their order. -/
def foldL (c : Nat → Rec) (L : Nat → Bool) : List Nat → St → St
  | [], S => S
  | k :: l, S => foldL c L l (if L k = true then (c k).upd S else S)
theorem foldL_append (c : Nat → Rec) (L : Nat → Bool) : ∀ (l m : List Nat) (S : St), foldL c L (l ++ m) S = foldL c L m (foldL c L l S)
  | [], m, S => rfl
  | k :: l, m, S => by simp only [List.cons_append, foldL]; exact foldL_append c L l m _
theorem foldL_congr {c : Nat → Rec} {L L' : Nat → Bool} : ∀ {l : List Nat} (S : St), (∀ k, k ∈ l → L k = L' k) → foldL c L l S = foldL c L' l S
  | [], S, _ => rfl
  | k :: l, S, h => by
    simp only [foldL]
    rw [h k (by simp)]
    exact foldL_congr _ fun j hj => h j (by simp [hj])
theorem foldL_eqv {c : Nat → Rec} {L : Nat → Bool} : ∀ {l : List Nat} {S S' : St}, Eqv S S' → Eqv (foldL c L l S) (foldL c L l S')
  | [], S, S', h => h
  | k :: l, S, S', h => by
    simp only [foldL]
    by_cases e : L k = true
    · rw [if_pos e, if_pos e]; exact foldL_eqv (h.upd _)
    · rw [if_neg e, if_neg e]; exact foldL_eqv h
theorem foldL_past {c : Nat → Rec} {L : Nat → Bool} {i : Nat} : ∀ {l : List Nat} {S : St}, (∀ k, k ∈ l → L k = true → Apart (c i) (c k)) → Eqv ((c i).upd (foldL c L l S)) (foldL c L l ((c i).upd S))
  | [], S, _ => Eqv.refl _
  | k :: l, S, h => by
    simp only [foldL]
    by_cases e : L k = true
    · rw [if_pos e, if_pos e]
      refine (foldL_past fun j hj hl => h j (by simp [hj]) hl).trans (foldL_eqv ?_)
      exact (h k (by simp) e).comm S
    · rw [if_neg e, if_neg e]
      exact foldL_past fun j hj hl => h j (by simp [hj]) hl
theorem foldL_sub {c : Nat → Rec} {L : Nat → Bool} {s : St} : ∀ {l : List Nat} {S : St}, Sub S s → (∀ k, k ∈ l → L k = true → Free (c k) s) → Sub (foldL c L l S) s
  | [], S, h, _ => h
  | k :: l, S, h, hf => by
    simp only [foldL]
    by_cases e : L k = true
    · rw [if_pos e]
      exact foldL_sub (h.upd (hf k (by simp) e)) fun j hj hl => hf j (by simp [hj]) hl
    · rw [if_neg e]
      exact foldL_sub h fun j hj hl => hf j (by simp [hj]) hl
/-- Those that are not in L left out. -/
theorem foldL_rel {c : Nat → Rec} {L : Nat → Bool} : ∀ {l : List Nat} {done : List Nat} {S S' : St} {zs ds ws : List Nat}, Rel zs ds ws S S' → (∀ z, z ∈ zs → ∃ j, j ∈ done ∧ L j = false ∧ z ∈ (c j).del.zs) →
    (∀ i, i ∈ ds → ∃ j, j ∈ done ∧ L j = false ∧ (c j).dst = some i) → (∀ z, z ∈ ws → ∃ j, j ∈ done ∧ L j = false ∧ z ∈ (c j).wr) →
    (∀ j k, [j, k].Sublist l → L j = false → L k = true → Apart (c j) (c k)) → (∀ j k, j ∈ done → k ∈ l → L j = false → L k = true → Apart (c j) (c k)) →
    ∃ zs ds ws, Rel zs ds ws (foldL c L l S) (foldL c (fun _ => true) l S') ∧ (∀ i, i ∈ ds → ∃ j, (j ∈ done ∨ j ∈ l) ∧ L j = false ∧ (c j).dst = some i) ∧ (∀ z, z ∈ ws → ∃ j, (j ∈ done ∨ j ∈ l) ∧ L j = false ∧ z ∈ (c j).wr) ∧ (∀ z, z ∈ zs → ∃ j, (j ∈ done ∨ j ∈ l) ∧ L j = false ∧ z ∈ (c j).del.zs)
  | [], done, S, S', zs, ds, ws, h, hz, hd, hw, _, _ => ⟨zs, ds, ws, h, fun i hi => by obtain ⟨j, h1, h2⟩ := hd i hi; exact ⟨j, .inl h1, h2⟩, fun z hz => by obtain ⟨j, h1, h2⟩ := hw z hz; exact ⟨j, .inl h1, h2⟩, fun z hzz => by obtain ⟨j, h1, h2⟩ := hz z hzz; exact ⟨j, .inl h1, h2⟩⟩
  | k :: l, done, S, S', zs, ds, ws, h, hz, hd, hw, h2, h3 => by
    simp only [foldL, if_true]
    by_cases e : L k = true
    · rw [if_pos e]
      have hb := h.both (c k) (fun z hzz => by
        obtain ⟨j, j1, j2, j3⟩ := hz z hzz
        exact (h3 j k j1 (by simp) j2 e).said1 z j3)
      obtain ⟨zs', ds', ws', r1, r2, r3, r4⟩ := foldL_rel (done := done) hb hz hd hw (fun j q hs => h2 j q (hs.trans (List.sublist_cons_self k l))) (fun j q hj hq => h3 j q hj (by simp [hq]))
      refine ⟨zs', ds', ws', r1, fun i hi => ?_, fun z hz => ?_, fun z hz => ?_⟩
      · obtain ⟨j, j1, j2⟩ := r2 i hi; exact ⟨j, j1.imp id (by simp +contextual), j2⟩
      · obtain ⟨j, j1, j2⟩ := r3 z hz; exact ⟨j, j1.imp id (by simp +contextual), j2⟩
      · obtain ⟨j, j1, j2⟩ := r4 z hz; exact ⟨j, j1.imp id (by simp +contextual), j2⟩
    · rw [if_neg e]
      have ef : L k = false := by simpa using e
      have hm := h.more (c k)
      obtain ⟨zs', ds', ws', r1, r2, r3, r4⟩ := foldL_rel (done := k :: done) hm (fun z hzz => by
          rcases List.mem_append.1 hzz with hzz | hzz
          · obtain ⟨j, j1, j2⟩ := hz z hzz; exact ⟨j, by simp [j1], j2⟩
          · exact ⟨k, by simp, ef, hzz⟩) (fun i hi => by
          rcases List.mem_append.1 hi with hi | hi
          · refine ⟨k, by simp, ef, ?_⟩
            unfold Rec.dsts at hi
            split at hi
            · rename_i d hdd; simp at hi; subst hi; exact hdd
            · simp at hi
          · obtain ⟨j, j1, j2⟩ := hd i hi; exact ⟨j, by simp [j1], j2⟩) (fun z hzz => by
          rcases List.mem_append.1 hzz with hzz | hzz
          · exact ⟨k, by simp, ef, hzz⟩
          · obtain ⟨j, j1, j2⟩ := hw z hzz; exact ⟨j, by simp [j1], j2⟩) (fun j q hs => h2 j q (hs.trans (List.sublist_cons_self k l))) (fun j q hj hq hLj hLq => by
          rcases List.mem_cons.1 hj with rfl | hj
          · exact h2 j q (List.Sublist.cons_cons j (List.singleton_sublist.2 hq)) hLj hLq
          · exact h3 j q hj (by simp [hq]) hLj hLq)
      have up : ∀ {j : Nat}, j ∈ k :: done ∨ j ∈ l → j ∈ done ∨ j ∈ k :: l := fun {j} j1 => by
        rcases j1 with j1 | j1
        · rcases List.mem_cons.1 j1 with rfl | j1
          · exact .inr (by simp)
          · exact .inl j1
        · exact .inr (by simp [j1])
      refine ⟨zs', ds', ws', r1, fun i hi => ?_, fun z hz => ?_, fun z hz => ?_⟩
      · obtain ⟨j, j1, j2⟩ := r2 i hi; exact ⟨j, up j1, j2⟩
      · obtain ⟨j, j1, j2⟩ := r3 z hz; exact ⟨j, up j1, j2⟩
      · obtain ⟨j, j1, j2⟩ := r4 z hz; exact ⟨j, up j1, j2⟩

/-- A state that holds all that a footprint holds, as it is. -/
def Exact (S s : St) : Prop := (∀ i v, look s.t i = some v → look S.t i = some v) ∧ ∀ q o, look s.h q = some o → look S.h q = some o
theorem Exact.upd {S s : St} (h : Exact S s) {c : Rec} (hf : Free c s) : Exact (c.upd S) s := by
  refine ⟨fun i v hv => ?_, fun q o ho => ?_⟩
  · rw [Rec.look_t]
    by_cases e : c.dst = some i
    · rw [hf.t i e] at hv; cases hv
    · rw [if_neg e, h.1 i v hv]
      simp only [Option.map_some, Option.some.injEq]
      exact GV.strikes_id fun z hz => (hf.said z hz).1 i v hv
  · have hq : q ∉ c.wr := fun hm => by rw [hf.h q hm] at ho; cases ho
    obtain ⟨k1, k2, k3⟩ := Rec.wr_none hq
    rw [Rec.look_h, k3]
    simp only [k1, k2, or_self, if_false, Option.none_or]
    rw [h.2 q o ho]
    simp only [Option.map_some, Option.some.injEq]
    exact Ob.strikes_id fun z hz => (hf.said z hz).2 q o ho
theorem foldL_exact {c : Nat → Rec} {L : Nat → Bool} {s : St} : ∀ {l : List Nat} {S : St}, Exact S s → (∀ k, k ∈ l → L k = true → Free (c k) s) → Exact (foldL c L l S) s
  | [], S, h, _ => h
  | k :: l, S, h, hf => by
    simp only [foldL]
    by_cases e : L k = true
    · rw [if_pos e]
      exact foldL_exact (h.upd (hf k (by simp) e)) fun j hj hl => hf j (by simp [hj]) hl
    · rw [if_neg e]
      exact foldL_exact h fun j hj hl => hf j (by simp [hj]) hl

section
variable {P : Program} {ops : Array Oper} {Q : Exit → Act → World → Prop}
/-- What binds in any order. -/
def bindsAny (e : Edge) : Bool := Region.binds .any e
/-- L is closed: with an operation those that it waits for. -/
def Closed (ops : Array Oper) (L : Nat → Bool) : Prop := ∀ (k : Nat) o, L k = true → ops[k]? = some o → ∀ e, e ∈ o.after → bindsAny e = true → L e.on = true

theorem getD_listed {listed : Array Bool} {k : Nat} (h : k < listed.size) (d d' : Bool) : listed.getD k d = listed.getD k d' := by simp [Array.getD, h]

theorem range_split (i m : Nat) (h : i < m) : List.range m = List.range i ++ i :: List.range' (i + 1) (m - (i + 1)) := by
  have e : m = i + ((m - (i + 1)) + 1) := by omega
  conv => lhs; rw [e, List.range_eq_range', ← List.range'_append_1]
  rw [List.range'_succ, Nat.zero_add, ← List.range_eq_range']

/-- Every order. -/
theorem orders {n : Nat} {X : Cx} {c : Nat → Rec} {s : Nat → St} {st0 : St} {pre : Nat → Nat → Prop} {ex : Nat → Prop} {I : Mem} {μ : Locs}
    (hex : ∀ i, i < ops.size → ex i → Exact (foldL c (fun _ => true) (List.range i) st0) (s i) ∧ ∀ j, j < i → ¬ pre j i → (c j).del.zs = [])
    (hback : ∀ (k : Nat) o, ops[k]? = some o → ∀ e, e ∈ o.after → bindsAny e = true → e.on < k)
    (hpre : ∀ L, Closed ops L → (∀ k, L k = true → k < ops.size) → ∀ i k, L k = true → pre i k → L i = true)
    (hap : ∀ i k, i < k → k < ops.size → ¬ pre i k → Apart (c i) (c k) ∧ Free (c i) (s k) ∧ Free (c k) (s i))
    (hsub : ∀ i, i < ops.size → Sub (foldL c (fun _ => true) (List.range i) st0) (s i))
    (hT : ∀ i, i < ops.size → ∀ (S : St) J ν a w, NewI X I J → RowsOk ν → Keep μ ν → Sim X n J ν S a w → Sub S (s i) → (ex i → Exact S (s i)) → ∀ K : Act → World → Prop,
      (∀ J' ν' a' w', NewI X I J' → RowsOk ν' → Keep μ ν' → Sim X n J' ν' ((c i).upd S) a' w' → K a' w') → wpOp P ops Q i K a w)
    (hQ : ∀ J ν a w, NewI X I J → RowsOk ν → Keep μ ν → Sim X n J ν (foldL c (fun _ => true) (List.range ops.size) st0) a w → Q .normal a w) :
    ∀ (fuel : Nat) (listed : Array Bool) J ν a w, listed.size = ops.size → Closed ops (fun k => listed.getD k false) → NewI X I J → RowsOk ν → Keep μ ν → Sim X n J ν (foldL c (fun k => listed.getD k false) (List.range ops.size) st0) a w →
      ((List.range ops.size).filter fun k => !listed.getD k false).length ≤ fuel → wpAny P .any ops Q fuel listed a w := by
  have hdone : ∀ (listed : Array Bool), listed.size = ops.size → Region.ready .any ops listed = [] → ∀ k, k < ops.size → listed.getD k false = true := by
    intro listed hsz hr k
    induction k using Nat.strongRecOn with
    | _ k ih =>
      intro hk
      cases hl : listed.getD k false
      · exfalso
        have hm : k ∈ Region.ready .any ops listed := by
          rw [mem_ready]
          refine ⟨by rw [getD_listed (by omega) true false]; exact hl, ops[k], by simp [hk], fun e he hb => ?_⟩
          have := hback k ops[k] (by simp [hk]) e he hb
          exact ih e.on this (by omega)
        rw [hr] at hm
        simp at hm
      · rfl
  have hall : ∀ (listed : Array Bool) J ν a w, listed.size = ops.size → NewI X I J → RowsOk ν → Keep μ ν → Sim X n J ν (foldL c (fun k => listed.getD k false) (List.range ops.size) st0) a w → Region.ready .any ops listed = [] → Q .normal a w := by
    intro listed J ν a w hsz h1 h2 h3 h4 hr
    refine hQ J ν a w h1 h2 h3 ?_
    rw [foldL_congr (L' := fun k => listed.getD k false) st0 fun k hk => (hdone listed hsz hr k (by simpa using hk)).symm]
    exact h4
  intro fuel
  induction fuel with
  | zero =>
    intro listed J ν a w hsz hcl h1 h2 h3 h4 hf
    have hr : Region.ready .any ops listed = [] := by
      apply List.eq_nil_iff_forall_not_mem.2
      intro k hk
      rw [mem_ready] at hk
      obtain ⟨k1, o, k2, _⟩ := hk
      have hlt : k < ops.size := (Array.getElem?_eq_some_iff.1 k2).1
      have : k ∈ (List.range ops.size).filter fun k => !listed.getD k false := by
        rw [List.mem_filter]
        refine ⟨by simpa using hlt, ?_⟩
        rw [getD_listed (by omega) false true, k1]; rfl
      have h0 : (List.range ops.size).filter (fun k => !listed.getD k false) = [] := List.eq_nil_of_length_eq_zero (by omega)
      rw [h0] at this
      simp at this
    exact ⟨hr, hall listed J ν a w hsz h1 h2 h3 h4 hr⟩
  | succ fuel ih =>
    intro listed J ν a w hsz hcl h1 h2 h3 h4 hf
    refine ⟨hall listed J ν a w hsz h1 h2 h3 h4, fun i hi => ?_⟩
    rw [mem_ready] at hi
    obtain ⟨i1, o, i2, i3⟩ := hi
    have hlt : i < ops.size := (Array.getElem?_eq_some_iff.1 i2).1
    have i1' : listed.getD i false = false := by rw [getD_listed (by omega) false true]; exact i1
    have hLlt : ∀ k, listed.getD k false = true → k < ops.size := by
      intro k hk
      rcases Nat.lt_or_ge k ops.size with h | h
      · exact h
      · simp [Array.getD, Nat.not_lt.2 (show listed.size ≤ k by omega)] at hk
    -- what waits for i is not there, what i waits for is
    have notpre : ∀ k, listed.getD k false = true → ¬ pre i k := fun k hk hp => by
      have := hpre (fun k => listed.getD k false) hcl hLlt i k hk hp
      have this : listed.getD i false = true := this
      rw [i1'] at this
      cases this
    have hcl' : Closed ops (fun k => (listed.setIfInBounds i true).getD k false) := by
      intro k o' hk ho' e he hb
      simp only at hk ⊢
      by_cases e1 : i = k
      · subst e1
        rw [i2] at ho'
        injection ho' with ho'
        subst ho'
        exact getD_set_true (i3 e he hb)
      · rw [getD_set_ne false e1] at hk
        exact getD_set_true (hcl k o' hk ho' e he hb)
    have hi' : (listed.setIfInBounds i true).getD i false = true := by simp [show i < listed.size by omega]
    have hLlt' : ∀ k, (listed.setIfInBounds i true).getD k false = true → k < ops.size := by
      intro k hk
      by_cases e1 : i = k
      · subst e1; exact hlt
      · rw [getD_set_ne false e1] at hk; exact hLlt k hk
    have notpre' : ∀ j, listed.getD j false = false → j ≠ i → ¬ pre j i := fun j hj hne hp => by
      have := hpre (fun k => (listed.setIfInBounds i true).getD k false) hcl' hLlt' j i hi' hp
      have this : (listed.setIfInBounds i true).getD j false = true := this
      rw [getD_set_ne false (fun e => hne e.symm), hj] at this
      cases this
    rw [range_split i ops.size hlt, foldL_append] at h4
    simp only [foldL, i1', Bool.false_eq_true, if_false] at h4
    -- the footprint
    have hS : Sub (foldL c (fun k => listed.getD k false) (List.range' (i + 1) (ops.size - (i + 1))) (foldL c (fun k => listed.getD k false) (List.range i) st0)) (s i) ∧ (ex i → Exact (foldL c (fun k => listed.getD k false) (List.range' (i + 1) (ops.size - (i + 1))) (foldL c (fun k => listed.getD k false) (List.range i) st0)) (s i)) := by
      have late : ∀ k, k ∈ List.range' (i + 1) (ops.size - (i + 1)) → listed.getD k false = true → Free (c k) (s i) := by
        intro k hk hl
        have hk' : i + 1 ≤ k ∧ k < ops.size := by
          rw [List.mem_range'_1] at hk
          omega
        exact (hap i k (by omega) hk'.2 (notpre k hl)).2.2
      have early : Sub (foldL c (fun k => listed.getD k false) (List.range i) st0) (s i) ∧ (ex i → Exact (foldL c (fun k => listed.getD k false) (List.range i) st0) (s i)) := by
        obtain ⟨zs, ds, ws, r1, r2, r3, r4⟩ := foldL_rel (c := c) (L := fun k => listed.getD k false) (l := List.range i) (done := []) (Rel.refl st0) (by simp) (by simp) (by simp) (by
          intro j k hs hj hk
          have hs' : [j, k].Sublist (List.range i) := hs
          have hp := List.pairwise_lt_range (n := i)
          have hjk : j < k := by
            have := hp.sublist hs'
            simpa using this
          have hki : k < i := by
            have : k ∈ List.range i := hs'.subset (by simp)
            simpa using this
          refine (hap j k hjk (by omega) fun hpp => ?_).1
          have := hpre (fun k => listed.getD k false) hcl hLlt j k hk hpp
          have this : listed.getD j false = true := this
          have hj : listed.getD j false = false := hj
          rw [hj] at this
          cases this) (by simp)
        obtain ⟨b1, b2⟩ := hsub i hlt
        have miss : ∀ j, j ∈ ([] : List Nat) ∨ j ∈ List.range i → listed.getD j false = false → Free (c j) (s i) := by
          intro j hj hl
          have hji : j < i := by
            rcases hj with hj | hj
            · simp at hj
            · simpa using hj
          exact (hap j i hji hlt (notpre' j hl (by omega))).2.1
        have gt : ∀ t v, look (s i).t t = some v → t ∉ ds := fun t v hv hm => by
          obtain ⟨j, j1, j2, j3⟩ := r2 t hm
          rw [(miss j j1 j2).t t j3] at hv
          cases hv
        have gh : ∀ q o, look (s i).h q = some o → q ∉ ws := fun q o ho hm => by
          obtain ⟨j, j1, j2, j3⟩ := r3 q hm
          rw [(miss j j1 j2).h q j3] at ho
          cases ho
        refine ⟨⟨fun t v hv => ?_, fun q o ho => ?_⟩, fun hxi => ?_⟩
        · obtain ⟨u, zs0, g1, g2⟩ := b1 t v hv
          obtain ⟨u0, g3, g4⟩ := r1.t t (gt t v hv) u g1
          exact ⟨u0, zs ++ zs0, g3, by rw [GV.strikes_append, ← g4]; exact g2⟩
        · obtain ⟨p, zs0, g1, g2⟩ := b2 q o ho
          obtain ⟨u0, g3, g4⟩ := r1.h q (gh q o ho) p g1
          exact ⟨u0, zs ++ zs0, g3, by rw [Ob.strikes_append, ← g4]; exact g2⟩
        · obtain ⟨q1, q2⟩ := hex i hlt hxi
          have hz : zs = [] := by
            apply List.eq_nil_iff_forall_not_mem.2
            intro z hz
            obtain ⟨j, j1, j2, j3⟩ := r4 z hz
            have hji : j < i := by
              rcases j1 with j1 | j1
              · simp at j1
              · simpa using j1
            rw [q2 j hji (notpre' j j2 (by omega))] at j3
            cases j3
          subst hz
          refine ⟨fun t v hv => ?_, fun q o ho => ?_⟩
          · obtain ⟨u0, g3, g4⟩ := r1.t t (gt t v hv) v (q1.1 t v hv)
            rw [g3, g4]
            rfl
          · obtain ⟨u0, g3, g4⟩ := r1.h q (gh q o ho) o (q1.2 q o ho)
            rw [g3, g4]
            rfl
      exact ⟨foldL_sub early.1 late, fun hxi => foldL_exact (early.2 hxi) late⟩
    refine hT i hlt _ J ν a w h1 h2 h3 h4 hS.1 hS.2 _ ?_
    intro J' ν' a' w' m1 m2 m3 m4
    refine ih _ J' ν' a' w' (by simpa using hsz) hcl' m1 m2 m3 ?_ ?_
    · refine m4.eqv ?_
      rw [range_split i ops.size hlt, foldL_append]
      simp only [foldL, hi', if_true]
      have e1 : foldL c (fun k => (listed.setIfInBounds i true).getD k false) (List.range i) st0 = foldL c (fun k => listed.getD k false) (List.range i) st0 := foldL_congr st0 (fun k hk => by
        have : k < i := by simpa using hk
        exact getD_set_ne false (by omega))
      have e2 : ∀ S, foldL c (fun k => (listed.setIfInBounds i true).getD k false) (List.range' (i + 1) (ops.size - (i + 1))) S = foldL c (fun k => listed.getD k false) (List.range' (i + 1) (ops.size - (i + 1))) S := fun S => foldL_congr S (fun k hk => by
        rw [List.mem_range'_1] at hk
        exact getD_set_ne false (by omega))
      rw [e1, e2]
      refine foldL_past fun k hk hl => ?_
      have hk' : i + 1 ≤ k ∧ k < ops.size := by
        rw [List.mem_range'_1] at hk
        omega
      exact (hap i k (by omega) hk'.2 (notpre k hl)).1
    · have hlen : ∀ (l : List Nat), l.Nodup → i ∈ l → (l.filter fun k => !(listed.setIfInBounds i true).getD k false).length + 1 ≤ (l.filter fun k => !listed.getD k false).length := by
        intro l
        induction l with
        | nil => intro _ h; simp at h
        | cons x l ihl =>
          intro hnd hm
          rw [List.nodup_cons] at hnd
          by_cases hx : x = i
          · subst hx
            rw [List.filter_cons_of_neg (by rw [hi']; simp), List.filter_cons_of_pos (by rw [i1']; simp)]
            simp only [List.length_cons]
            have : (l.filter fun k => !(listed.setIfInBounds x true).getD k false) = l.filter fun k => !listed.getD k false := by
              apply List.filter_congr
              intro k hk
              rw [getD_set_ne false (fun e => hnd.1 (by rw [e]; exact hk))]
            rw [this]
            exact Nat.le_refl _
          · have hm' : i ∈ l := by
              rcases List.mem_cons.1 hm with e | h
              · exact absurd e.symm hx
              · exact h
            have h5 := ihl hnd.2 hm'
            have e5 : (listed.setIfInBounds i true).getD x false = listed.getD x false := getD_set_ne false (fun e => hx e.symm)
            simp only [List.filter_cons, e5]
            split
            · simp only [List.length_cons]; omega
            · exact h5
      have := hlen (List.range ops.size) List.nodup_range (by simpa using hlt)
      omega
end
end Go.Dip
end

/- An ideal semantics of the model's code: objects that are as they were. (To stand ahead of Core26.) -/
section
set_option linter.unusedVariables false
set_option linter.unusedSimpArgs false
namespace Go.Dip
theorem eqL_eq {α : Type} {f : α → α → Bool} (hf : ∀ a b, f a b = true → a = b) : ∀ l m, eqL f l m = true → l = m
  | [], [], _ => rfl
  | x :: l, y :: m, h => by
    simp only [eqL, Bool.and_eq_true] at h
    rw [hf x y h.1, eqL_eq hf l m h.2]
  | [], _ :: _, h => by simp [eqL] at h
  | _ :: _, [], h => by simp [eqL] at h
theorem pairs_eq {α β : Type} : ∀ {l m : List (α × β)}, l.map Prod.fst = m.map Prod.fst → l.map Prod.snd = m.map Prod.snd → l = m
  | [], [], _, _ => rfl
  | x :: l, y :: m, h1, h2 => by
    simp only [List.map_cons, List.cons.injEq] at h1 h2
    rw [pairs_eq h1.2 h2.2, Prod.ext h1.1 h2.1]
  | [], _ :: _, h, _ => by simp at h
  | _ :: _, [], h, _ => by simp at h
theorem eqP_eq : ∀ n a b, eqP n a b = true → a = b
  | 0, a, b, h => by simp [eqP] at h
  | n + 1, a, b, h => by
    have ih := eqL_eq (eqP_eq n)
    cases a <;> cases b <;> simp only [eqP, Bool.and_eq_true, decide_eq_true_eq, beq_iff_eq, nbeq] at h <;> first
      | rfl
      | (cases h; done)
      | (rw [h]; done)
      | (rw [ih _ _ h]; done)
      | (rw [h.1, h.2]; done)
      | (rw [h.1, ih _ _ h.2]; done)
      | (rw [pairs_eq (ih _ _ h.1) (ih _ _ h.2)]; done)
theorem eqC_eq (a b : CV) (h : eqC a b = true) : a = b := by
  cases a <;> cases b <;> simp only [eqC, Bool.and_eq_true, decide_eq_true_eq, nbeq] at h <;> first
    | (cases h; done)
    | (rw [eqP_eq _ _ _ h]; done)
    | (rw [h]; done)
    | (rw [h.1, h.2]; done)
    | (rw [h.1, eqL_eq (fun a b h => by simpa [nbeq] using h) _ _ h.2]; done)
theorem asWas_eq {h : List (Nat × Ob)} {r : Nat} {o : Ob} (e : asWas h r o = true) : look h r = some o := by
  unfold asWas at e
  split at e
  · rename_i cs ds hl
    rw [hl, eqL_eq eqC_eq _ _ e]
  · rename_i f es g fs hl
    simp only [Bool.and_eq_true, nbeq, decide_eq_true_eq] at e
    rw [hl, e.1, eqL_eq (eqP_eq 40) _ _ e.2]
  · rename_i f es g fs hl
    simp only [Bool.and_eq_true, nbeq, decide_eq_true_eq] at e
    rw [hl, e.1, eqL_eq (eqP_eq 40) _ _ e.2]
  · rename_i a b hl
    simp only [Bool.and_eq_true] at e
    rw [hl, pairs_eq (eqL_eq (eqP_eq 40) _ _ e.1) (eqL_eq (eqP_eq 40) _ _ e.2)]
  · cases e
end Go.Dip
end

/- An ideal semantics of the model's code, part 26: an operation on what it reads alone. -/
section
set_option linter.unusedVariables false
set_option linter.unusedSimpArgs false
namespace Go.Dip
section
variable {R : Type} {r : R} {P : Program} {E : Env} {tB : TypeId} {W0 : World}

theorem OpDoes.eqv {o : Oper} {S S1 S2 : St} {v : GV} (h : OpDoes P E tB W0 o S v S1) (e : Eqv S1 S2) : OpDoes P E tB W0 o S v S2 := by
  intro X n I μ a w hX hB hW hr hs
  refine (h hX hB hW hr hs).mono ?_
  rintro x w' ⟨J, ν, h1, h2, h3, h4⟩
  exact ⟨J, ν, h1, h2, h3.eqv e, h4⟩
theorem Delta.look_t (D : Delta) (st : St) (i : Nat) : look (D.app st).t i = (look st.t i).map (GV.strikes D.zs) := by
  have := Rec.look_t ⟨Option.none, .any, D⟩ st i
  simpa [Rec.upd, St.put] using this
theorem Delta.look_h (D : Delta) (st : St) (q : Nat) : look (D.app st).h q = (look D.add q).or (if q ∈ D.zs ∨ q ∈ D.ds then Option.none else (look st.h q).map (Ob.strikes D.zs)) := by
  have := Rec.look_h ⟨Option.none, .any, D⟩ st q
  simpa [Rec.upd, St.put] using this
theorem eqv_new (d : Nat) (ob : Ob) (S : St) : Eqv (newOb d ob (S.strike d)) ((⟨[d], [d], [(d, ob)]⟩ : Delta).app S) := by
  refine ⟨fun i => ?_, fun q => ?_⟩
  · rw [Delta.look_t]
    simp only [newOb, look_strike_t]
    rfl
  · rw [Delta.look_h]
    simp only [newOb, look_cons, look_strike, look, nbeq, List.mem_singleton, or_self]
    by_cases e : q = d
    · simp [e]
    · simp [e]; rfl
theorem eqv_move (r : Nat) (p ob : Ob) (S : St) : Eqv (moveRow r ob { S with h := (r, p) :: S.h }) ((⟨[r], [r], [(r, ob)]⟩ : Delta).app S) := by
  refine ⟨fun i => ?_, fun q => ?_⟩
  · rw [Delta.look_t]
    simp only [moveRow, newOb, look_strike_t]
    rfl
  · rw [Delta.look_h]
    simp only [moveRow, newOb, look_cons, look_strike, look, nbeq, List.mem_singleton, or_self]
    by_cases e : q = r
    · simp [e]
    · simp [e]; rfl
theorem eqv_set (r : Nat) (p ob : Ob) (S : St) : Eqv (setOb r ob { S with h := (r, p) :: S.h }) ((⟨[], [r], [(r, ob)]⟩ : Delta).app S) := by
  refine ⟨fun i => ?_, fun q => ?_⟩
  · rw [Delta.look_t]
    simp only [setOb, GV.strikes, List.foldl_nil]
    cases look S.t i <;> rfl
  · rw [Delta.look_h]
    simp only [setOb, look_cons, look_drop, look, nbeq, List.mem_singleton, List.not_mem_nil, false_or, Ob.strikes, List.foldl_nil]
    by_cases e : q = r
    · simp [e]
    · simp only [e, if_false, decide_false, cond_false, Option.none_or]
      cases look S.h q <;> rfl

/-- One object of the footprint, said in the place of its own. -/
theorem Sub.over {S s : St} (h : Sub S s) {q : Nat} {o : Ob} (ho : look s.h q = some o) : Sub S { S with h := (q, o) :: S.h } := by
  refine ⟨fun i v hv => ⟨v, [], hv, rfl⟩, fun k p hp => ?_⟩
  rw [look_cons] at hp
  by_cases e : k = q
  · rw [if_pos e] at hp
    injection hp with hp
    subst hp e
    exact h.2 k o ho
  · rw [if_neg e] at hp
    exact ⟨p, [], hp, rfl⟩
theorem Sub.overs {S s : St} (h : Sub S s) (ks : List Nat) : Sub S { S with h := footH s.h ks ++ S.h } := by
  refine ⟨fun i v hv => ⟨v, [], hv, rfl⟩, fun k p hp => ?_⟩
  rw [look_append] at hp
  have key : ∀ (l : List Nat) (p : Ob), look (footH s.h l) k = some p → look s.h k = some p := by
    intro l
    induction l with
    | nil => intro p hp; simp [footH, look] at hp
    | cons x l ih =>
      intro p hp
      simp only [footH] at hp
      split at hp
      · rename_i o ho
        rw [look_cons] at hp
        by_cases e : k = x
        · rw [if_pos e] at hp
          injection hp with hp
          subst hp e
          exact ho
        · rw [if_neg e] at hp
          exact ih p hp
      · exact ih p hp
  cases hl : look (footH s.h ks) k with
  | some p' =>
    rw [hl] at hp
    simp only [Option.some_or, Option.some.injEq] at hp
    subst hp
    exact h.2 k p' (key ks p' hl)
  | none =>
    rw [hl] at hp
    simp only [Option.none_or] at hp
    exact ⟨p, [], hp, rfl⟩
theorem look_footH {h : List (Nat × Ob)} {q : Nat} : ∀ {l : List Nat}, q ∈ l → look (footH h l) q = look h q
  | [], hq => by simp at hq
  | x :: l, hq => by
    simp only [footH]
    split
    · rename_i o ho
      rw [look_cons]
      by_cases e : q = x
      · rw [if_pos e, e, ho]
      · rw [if_neg e]
        rcases List.mem_cons.1 hq with e' | hq
        · exact absurd e' e
        · exact look_footH hq
    · rename_i ho
      by_cases e : q = x
      · by_cases hq' : q ∈ l
        · exact look_footH hq'
        · have : ∀ (l : List Nat), q ∉ l → look (footH h l) q = none := by
            intro l
            induction l with
            | nil => intro _; rfl
            | cons y l ih =>
              intro hn
              simp only [List.mem_cons, not_or] at hn
              simp only [footH]
              split
              · rw [look_cons, if_neg hn.1]; exact ih hn.2
              · exact ih hn.2
          rw [this l hq', e]
          exact ho.symm
      · rcases List.mem_cons.1 hq with e' | hq
        · exact absurd e' e
        · exact look_footH hq

theorem wParts0_inv (hE : EnvOk P E tB) {e : TypeId} {s : St} : ∀ {parts : List (Nat × Operand)} {n : Nat} {acc : List PV} {K : List PV → Option R}, wParts0 E e s parts n acc K = some r →
    ∃ es, K (acc.reverse ++ es) = some r ∧ es.length = n ∧ parts.length = n ∧ (∀ (j : Nat) x, parts[j]? = some x → x.1 = acc.length + j) ∧
      ∀ {X : Cx} {m : Nat} {I : Mem} {μ : Locs} {a : Act} {w : World}, X.E = E → Sim X m I μ s a w →
        ∀ (j : Nat) x, parts[j]? = some x → (es.getD j .any).cnt = E.sz e ∧ (a.eval x.2).cells.size = E.sz e ∧ ∀ i, i < E.sz e → RepP I (pcell (es.getD j .any) i) ((a.eval x.2).cells.toList.getD i undef) ∧ ((a.eval x.2).cells.toList.getD i undef).oneCell' = true
  | [], n, acc, K, h => by
    simp only [wParts0, nbeq] at h
    by_cases hn : n = 0
    · simp only [hn, decide_true, cond_true] at h
      exact ⟨[], by simpa using h, hn.symm, hn.symm, fun j x hj => by simp at hj, fun _ _ j x hj => by simp at hj⟩
    · simp [hn] at h
  | x :: parts, n, acc, K, h => by
    simp only [wParts0, nbeq] at h
    by_cases hx : x.1 = acc.length
    · simp only [hx, decide_true, cond_true] at h
      cases n with
      | zero => simp at h
      | succ n =>
        simp only at h
        split at h
        · rename_i y hy
          obtain ⟨h, hc, he⟩ := wElem_inv hE h
          obtain ⟨es, h1, h2, h3, h4, h5⟩ := wParts0_inv hE h
          refine ⟨y :: es, by simpa using h1, by simp [h2], by simp [h3], ?_, ?_⟩
          · intro j z hz
            cases j with
            | zero => simp at hz; subst hz; simpa using hx
            | succ j =>
              have := h4 j z (by simpa using hz)
              simp at this
              omega
          · intro X m I μ a w hX hs j z hz
            cases j with
            | zero =>
              simp at hz
              subst hz
              have hev := hs.evT e x.2
              rw [hX] at hev
              obtain ⟨k7, k8⟩ := he (pure_rep hy hev)
              exact ⟨by simpa using hc, k7, by simpa using k8⟩
            | succ j => simpa using h5 hX hs j z (by simpa using hz)
        · cases h
    · simp [hx] at h

theorem look_footH' {h : List (Nat × Ob)} {q : Nat} {o : Ob} : ∀ {l : List Nat}, look (footH h l) q = some o → look h q = some o
  | [], hh => by simp [footH, look] at hh
  | x :: l, hh => by
    simp only [footH] at hh
    split at hh
    · rename_i u hu
      rw [look_cons] at hh
      by_cases e : q = x
      · rw [if_pos e] at hh; rw [e, ← hh]; exact hu
      · rw [if_neg e] at hh; exact look_footH' hh
    · exact look_footH' hh
theorem handed_congr {h h' : List (Nat × Ob)} {ks : List Nat} : ∀ {l : List Nat}, (∀ r, r ∈ l → look h r = look h' r) → handed h ks l = handed h' ks l
  | [], _ => rfl
  | r :: l, hl => by
    simp only [handed]
    rw [hl r (by simp), handed_congr fun q hq => hl q (by simp [hq])]
theorem OpDoes.sub {o : Oper} {S S1 S2 : St} {v : GV} (h : OpDoes P E tB W0 o S v S1) (e : Sub S1 S2) : OpDoes P E tB W0 o S v S2 := by
  intro X n I μ a w hX hB hW hr hs
  refine (h hX hB hW hr hs).mono ?_
  rintro x w' ⟨J, ν, h1, h2, h3, h4⟩
  exact ⟨J, ν, h1, h2, h3.sub e, h4⟩
theorem look_of_mem {α : Type} {q : Nat} {o : α} : ∀ {l : List (Nat × α)}, distinct (l.map fun x => x.1) = true → (q, o) ∈ l → look l q = some o
  | [], _, h => by cases h
  | x :: l, hd, h => by
    simp only [List.map_cons, distinct, Bool.and_eq_true, Bool.not_eq_true'] at hd
    rw [look_cons]
    rcases List.mem_cons.1 h with e | h
    · subst e; simp
    · have : q ≠ x.1 := fun e => by
        have : isIn (l.map fun x => x.1) x.1 = true := isIn_iff.2 (List.mem_map.2 ⟨(q, o), h, e⟩)
        rw [this] at hd
        cases hd.1
      rw [if_neg this]
      exact look_of_mem hd.2 h
theorem Ob.map_asRow (f : CV → CV) (o : Ob) : (o.map f).asRow = o.asRow := by cases o <;> rfl
theorem look_none_of {α : Type} {q : Nat} : ∀ {l : List (Nat × α)}, (∀ x, x ∈ l → x.1 ≠ q) → look l q = none
  | [], _ => rfl
  | x :: l, h => by
    rw [look_cons, if_neg (fun e => h x (by simp) e.symm)]
    exact look_none_of fun y hy => h y (by simp [hy])
theorem footH_none {h : List (Nat × Ob)} {q : Nat} : ∀ {l : List Nat}, q ∉ l → look (footH h l) q = none
  | [], _ => rfl
  | y :: l, hn => by
    simp only [List.mem_cons, not_or] at hn
    simp only [footH]
    split
    · rw [look_cons, if_neg hn.1]; exact footH_none hn.2
    · exact footH_none hn.2
/-- A state with the footprint's objects in the place of its own. -/
def St.over (S : St) (h : List (Nat × Ob)) (ks : List Nat) : St := { S with h := footH h ks ++ S.h }
theorem outRec_inv {ex : Bool} {d : Nat} {s : St} {ks : List Nat} {v : GV} {H : List (Nat × Ob)} {K : GV → Delta → Option R} (h : outRec E ex d s ks v H K = some r) :
    ∃ D, K (v.map (CV.ren (back d ks))) D = some r ∧ distinct (H.map fun x => back d ks x.1) = true ∧ (∀ r, r ∈ v.keys → r ∈ H.map fun x => x.1) ∧ (∀ x, x ∈ H → ∀ r, r ∈ x.2.keys → r ∈ H.map fun x => x.1) ∧ (∀ x, x ∈ H → oldKey ks x.1 = true ∨ back d ks x.1 ∉ ks) ∧ plain E s.h ks H = true ∧
      (∀ x, x ∈ H → oldKey ks x.1 = false → back d ks x.1 ∈ D.zs) ∧
      (∀ q p, look H q = some p → oldKey ks q = true → rowAt s.h (back d ks q) = true → back d ks q ∉ D.zs → ∃ o1 e n, look s.h (back d ks q) = some o1 ∧ o1.asRow = some (e, n) ∧ p.asRow = some (e, n)) ∧
      ∀ S, (ex = true → Exact S s) → ∀ st1, st1 = strikeAll D.zs { S.over s.h ks with h := dropAll ks (S.over s.h ks).h } → Sub { st1 with h := (H.map fun x => (back d ks x.1, x.2.map (CV.ren (back d ks)))) ++ st1.h } (D.app S) := by
  unfold outRec at h
  simp only at h
  cases hc2 : distinct (H.map fun x => back d ks x.1) && (keysIn (H.map fun x => x.1) v.keys && (H.all (fun x => keysIn (H.map fun x => x.1) x.2.keys) && H.all fun x => oldKey ks x.1 || !isIn ks (back d ks x.1)))
  · rw [hc2] at h; exact absurd h (by simp)
  rw [hc2, cond_true] at h
  simp only [Bool.and_eq_true] at hc2
  obtain ⟨d1, d2, d3, d4⟩ := hc2
  cases hok : plain E s.h ks H
  · rw [hok] at h; exact absurd h (by simp)
  rw [hok, cond_true] at h
  generalize hnh : (H.map fun x => (back d ks x.1, x.2.map (CV.ren (back d ks)))) = nh at *
  have hdn : distinct (nh.map fun x => x.1) = true := by rw [← hnh, List.map_map]; exact d1
  refine ⟨_, h, d1, keysIn_iff.1 d2, fun x hx => keysIn_iff.1 ((List.all_eq_true.1 d3) x hx), fun x hx => ?_, rfl, fun x hx ho => ?_, fun q p hp ho hrow hq => ?_, ?_⟩
  · have := (List.all_eq_true.1 d4) x hx
    simp only [Bool.or_eq_true, Bool.not_eq_true'] at this
    rcases this with e | e
    · exact .inl e
    · exact .inr fun hm => by rw [isIn_iff.2 hm] at e; cases e
  · rw [List.mem_append]
    left
    refine List.mem_map.2 ⟨x, ?_, rfl⟩
    rw [List.mem_filter]
    exact ⟨hx, by rw [ho]; rfl⟩
  · have hmem : (back d ks q, p.map (CV.ren (back d ks))) ∈ nh := by
      rw [← hnh]
      exact List.mem_map.2 ⟨(q, p), look_mem _ _ _ hp, rfl⟩
    have hl := look_of_mem hdn hmem
    have hk : rowKept s.h nh (back d ks q) = true := by
      cases hk : rowKept s.h nh (back d ks q) with
      | true => rfl
      | false =>
        exfalso
        apply hq
        rw [List.mem_append]
        right
        rw [List.mem_filter]
        refine ⟨?_, by rw [hrow, hk]; rfl⟩
        simp only [back, ho, cond_true]
        exact oldKey_mem ho
    unfold rowKept at hk
    rw [hl] at hk
    simp only [Option.bind_some, Ob.map_asRow] at hk
    split at hk
    · rename_i x y hx hy
      simp only [Bool.and_eq_true, nbeq, decide_eq_true_eq] at hk
      obtain ⟨o1, h1, h2⟩ := Option.bind_eq_some_iff.1 hx
      obtain ⟨x1, x2⟩ := x
      obtain ⟨y1, y2⟩ := y
      simp only at hk
      obtain ⟨rfl, rfl⟩ := hk
      exact ⟨o1, _, _, h1, h2, hy⟩
    · cases hk
  · intro S hX0 st1 hst1
    refine ⟨fun i u hu => ?_, fun q ob ho => ?_⟩
    · rw [Delta.look_t] at hu
      refine ⟨u, [], ?_, rfl⟩
      show look st1.t i = some u
      rw [hst1, look_strikeAll_t]
      exact hu
    · rw [Delta.look_h] at ho
      show ∃ p zs, look (nh ++ st1.h) q = some p ∧ _
      have hnone : ∀ q, (∀ x, x ∈ nh → x.1 ≠ q) → look nh q = none := fun q hq => look_none_of hq
      cases ha : look (nh.filter fun x => !(ex && (isIn ks x.1 && asWas s.h x.1 x.2))) q with
      | some o' =>
        rw [ha] at ho
        simp only [Option.some_or, Option.some.injEq] at ho
        subst ho
        have hm := (List.mem_filter.1 (look_mem _ _ _ ha)).1
        refine ⟨o', [], ?_, rfl⟩
        rw [look_append, look_of_mem hdn hm]
        rfl
      | none =>
        rw [ha] at ho
        simp only [Option.none_or] at ho
        split at ho
        · cases ho
        rename_i hnot
        simp only [not_or] at hnot
        obtain ⟨hz, hds⟩ := hnot
        obtain ⟨p, hp, rfl⟩ := Option.map_eq_some_iff.1 ho
        by_cases hq : q ∈ ks
        · have hcalm : (nh.any fun x => Nat.beq x.1 q && (ex && (isIn ks x.1 && asWas s.h x.1 x.2))) = true := by
            cases hcm : (nh.any fun x => Nat.beq x.1 q && (ex && (isIn ks x.1 && asWas s.h x.1 x.2))) with
            | true => rfl
            | false =>
              exfalso
              apply hds
              rw [List.mem_filter]
              exact ⟨hq, by rw [hcm]; rfl⟩
          obtain ⟨x, hx, hxx⟩ := List.any_eq_true.1 hcalm
          simp only [Bool.and_eq_true, nbeq, decide_eq_true_eq] at hxx
          obtain ⟨rfl, hex, _, has⟩ := hxx
          have e1 := asWas_eq has
          have e2 := (hX0 hex).2 _ _ e1
          rw [hp] at e2
          injection e2 with e2
          refine ⟨x.2, _, ?_, by rw [e2]⟩
          rw [look_append, look_of_mem hdn (show (x.1, x.2) ∈ nh from hx)]
          rfl
        · have hnn : look nh q = none := by
            refine look_none_of fun x hx e => ?_
            rw [← hnh] at hx
            obtain ⟨y, hy, rfl⟩ := List.mem_map.1 hx
            cases hold : oldKey ks y.1 with
            | true =>
              apply hq
              rw [← e]
              simp only [back, hold, cond_true]
              exact oldKey_mem hold
            | false =>
              apply hz
              rw [List.mem_append]
              left
              refine List.mem_map.2 ⟨y, ?_, e⟩
              rw [List.mem_filter]
              exact ⟨hy, by rw [hold]; rfl⟩
          refine ⟨_, [], ?_, rfl⟩
          rw [look_append, hnn, Option.none_or, hst1, look_strikeAll_h, if_neg hz]
          simp only [look_dropAll', if_neg hq, St.over, look_append, footH_none hq, Option.none_or, hp]
          rfl
/-- What stands ahead of a call, or an operation, on a footprint. -/
theorem over_look {s S : St} {ks : List Nat} (hin : ∀ k, k ∈ ks → ∃ ob, look s.h k = some ob ∧ ∀ j, j ∈ ob.keys → j ∈ ks) : ∀ k, k ∈ ks → look (S.over s.h ks).h k = look s.h k := by
  intro k hk
  obtain ⟨ob, hob, _⟩ := hin k hk
  show look (footH s.h ks ++ S.h) k = _
  rw [look_append, look_footH hk, hob]
  rfl
theorem over_plain {s S : St} {ks : List Nat} {H : List (Nat × Ob)} (hlook : ∀ k, k ∈ ks → look (S.over s.h ks).h k = look s.h k) (hok : plain E s.h ks H = true) : plain E (S.over s.h ks).h ks H = true := by
  refine List.all_eq_true.2 fun x hx => ?_
  have := (List.all_eq_true.1 hok) x hx
  simp only [sameBld] at this ⊢
  cases hold : oldKey ks x.1
  · simpa [hold] using this
  · rw [hlook _ (oldKey_mem hold)]
    simpa [hold] using this
theorem hasOb_all {h : List (Nat × Ob)} {ks : List Nat} (c3 : ks.all (hasOb h ks) = true) : ∀ k, k ∈ ks → ∃ ob, look h k = some ob ∧ ∀ j, j ∈ ob.keys → j ∈ ks := by
  intro k hk
  have := (List.all_eq_true.1 c3) k hk
  unfold hasOb at this
  split at this
  · rename_i ob hob
    exact ⟨ob, hob, keysIn_iff.1 this⟩
  · cases this
theorem over_row {s S : St} {d : Nat} {ks : List Nat} {H : List (Nat × Ob)} {zs : List Nat} (hlook : ∀ k, k ∈ ks → look (S.over s.h ks).h k = look s.h k) (d7 : ∀ q p, look H q = some p → oldKey ks q = true → rowAt s.h (back d ks q) = true → back d ks q ∉ zs → ∃ o1 e n, look s.h (back d ks q) = some o1 ∧ o1.asRow = some (e, n) ∧ p.asRow = some (e, n)) :
    ∀ q p, look H q = some p → oldKey ks q = true → rowAt (S.over s.h ks).h (back d ks q) = true → back d ks q ∉ zs → ∃ o1 e n, look (S.over s.h ks).h (back d ks q) = some o1 ∧ o1.asRow = some (e, n) ∧ p.asRow = some (e, n) := by
  intro q p h1 h2 h3 h4
  have hm : back d ks q ∈ ks := by
    simp only [back, h2, cond_true]
    exact oldKey_mem h2
  have e := hlook _ hm
  unfold rowAt at h3
  rw [e] at h3 ⊢
  exact d7 q p h1 h2 h3 h4
theorem callRec_inv {o : Oper} {d : Nat} {s : St} {f : Operand} {args : Array Operand} {ts : Array TypeId} {g : FuncId} {rs : List Nat} {F : List GV → List (Nat × Ob) → (GV → List (Nat × Ob) → Option R) → Option R} {K : GV → Delta → Option R} {ex : Bool} (hE : EnvOk P E tB)
    (ho : o.op = .call { callee := .value f, args := args, argTypes := ts }) (hf : s.ev f = .c (.fn g rs)) (hbn : bnd g = true → args.size = 0) (hsz : ts.size = args.size)
    (hF : ∀ args H K r, F args H K = some r → ∃ v H', K v H' = some r ∧ HeapFn P E tB W0 (unb g) args H v H') (h : callRec E ex d s (wArgs E s (ts.toList.zip args.toList) ++ ptrs rs) F K = some r) :
    ∃ v D, K v D = some r ∧ ∀ S, Sub S s → (ex = true → Exact S s) → OpDoes P E tB W0 o S v (D.app S) := by
  unfold callRec at h
  simp only at h
  generalize hks : reach s.h 100 ((wArgs E s (ts.toList.zip args.toList) ++ ptrs rs).flatMap GV.keys) [] = ks at h
  cases hc : Nat.blt ks.length 1000 && (keysIn ks ((wArgs E s (ts.toList.zip args.toList) ++ ptrs rs).flatMap GV.keys) && ks.all (hasOb s.h ks))
  · rw [hc] at h; exact absurd h (by simp)
  simp only [hc, cond_true] at h
  simp only [Bool.and_eq_true, Nat.blt_eq] at hc
  obtain ⟨c1, c2, c3⟩ := hc
  obtain ⟨v, H, h, hfn⟩ := hF _ _ _ _ h
  obtain ⟨D, h, d1, d2, d3, d4, d5, d6, d7, d8⟩ := outRec_inv h
  have hin := hasOb_all c3
  refine ⟨_, _, h, fun S hS hX0 => OpDoes.sub (fun {X n I μ a w} hX hB hW hr hs => ?_) (d8 S hX0 _ rfl)⟩
  have hlook := over_look (S := S) hin
  have hs' : Sim X n I μ (S.over s.h ks) a w := hs.sub (hS.overs ks)
  have hss := hs.sub hS
  have hfv := hss.ev f
  rw [hf] at hfv
  obtain ⟨fs, cap, e1, e0, e2, e3⟩ := hfv
  subst hX hB hW
  have hla : (wArgs X.E s (ts.toList.zip args.toList)).length = args.size := by rw [wArgs_length]; simp [hsz]
  have hargs : fs ++ args.map a.eval ++ cap = args.map a.eval ++ (fs ++ cap) := by
    cases hbg : bnd g with
    | false => rw [e0 hbg]; simp
    | true =>
      have h0 : args = #[] := Array.eq_empty_of_size_eq_zero (hbn hbg)
      rw [h0]; simp
  have hrun : (execOp a.eval o).run P w = (callFunc (unb g) (args.map a.eval ++ (fs ++ cap))).run P w := by
    rw [← hargs]
    exact run_call ho e1
  generalize hcap : fs ++ cap = cap' at hrun e2 e3
  refine heapCall hE hr hs' hrun ?_ ?_ c1 (keysIn_iff.1 c2) (fun k hk => by rw [hlook k hk]; exact hin k hk) (by rw [handed_congr hlook]; exact hfn) d1 d2 d3 d4 _ d6 (over_row hlook d7) _ rfl (.inr (over_plain hlook d5))
  · simp only [Array.size_append, Array.size_map, List.length_append, hla, ptrs, List.length_map, e2]
  · intro i hi
    simp only [List.length_append, hla, ptrs, List.length_map] at hi
    by_cases hlt : i < args.size
    · have := hss.args ts args hsz i hlt
      have g1 : (wArgs X.E s (ts.toList.zip args.toList) ++ ptrs rs).getD i .any = (wArgs X.E s (ts.toList.zip args.toList)).getD i .any := by
        simp only [List.getD_eq_getElem?_getD, List.getElem?_append_left (show i < (wArgs X.E s (ts.toList.zip args.toList)).length by omega)]
      have g2 : (args.map a.eval ++ cap').getD i undef = (args.map a.eval).getD i undef := by
        rw [agetD, agetD, Array.toList_append]
        simp only [List.getD_eq_getElem?_getD]
        rw [List.getElem?_append_left (by simpa using hlt)]
      rw [g1, g2]
      exact this
    · have hj : i - args.size < rs.length := by omega
      have g1 : (wArgs X.E s (ts.toList.zip args.toList) ++ ptrs rs).getD i .any = .c (.ptr rs[i - args.size] 0) := by
        simp only [List.getD_eq_getElem?_getD]
        rw [List.getElem?_append_right (by omega), hla]
        simp [ptrs, hj]
      have g2 : (args.map a.eval ++ cap').getD i undef = cap'.getD (i - args.size) undef := by
        rw [agetD, agetD, Array.toList_append]
        simp only [List.getD_eq_getElem?_getD]
        rw [List.getElem?_append_right (by simp; omega)]
        simp
      rw [g1, g2]
      exact e3 (i - args.size) _ (by simp [hj])
theorem opRec_inv {ρ : FuncId → Option (Callee R)} (hE : EnvOk P E tB) (hρ : RhoOk P E tB W0 ρ) {o : Oper} (hd : ∀ d, o.dst = some d → d < 1000) {s : St} {K : GV → Delta → Option R} {ex : Bool} (h : opRec E ex ρ o s K = some r) :
    ∃ v D, K v D = some r ∧ ∀ S, Sub S s → (ex = true → Exact S s) → OpDoes P E tB W0 o S v (D.app S) := by
  unfold opRec at h
  simp only at h
  generalize hks : reach s.h 100 (s.t.flatMap fun x => x.2.keys) [] = ks at h
  cases hc : Nat.blt ks.length 1000 && (keysIn ks (s.t.flatMap fun x => x.2.keys) && ks.all (hasOb s.h ks))
  · rw [hc] at h; exact absurd h (by simp)
  simp only [hc, cond_true] at h
  simp only [Bool.and_eq_true, Nat.blt_eq] at hc
  obtain ⟨c1, c2, c3⟩ := hc
  obtain ⟨v, s1, h, hop⟩ := evOp_inv hE hρ hd h
  obtain ⟨D, h, d1, d2, d3, d4, d5, d6, d7, d8⟩ := outRec_inv h
  have hin := hasOb_all c3
  refine ⟨_, _, h, fun S hS hX0 => OpDoes.sub (fun {X n I μ a w} hX hB hW hr hs => ?_) (d8 S hX0 _ rfl)⟩
  have hlook := over_look (S := S) hin
  have hs0 := hs.sub hS
  have hs' : Sim X n I μ (S.over s.h ks) a w := hs.sub (hS.overs ks)
  subst hX hB hW
  refine heapOp rfl rfl rfl hr hs' (fun i u hu => ?_) c1 (fun k hk => by rw [hlook k hk]; exact hin k hk) (by rw [handed_congr hlook]; exact hop) (fun q p hp => look_footH' hp) d1 d2 d3 d4 _ d6 (over_row hlook d7) _ rfl (.inr (over_plain hlook d5))
  rw [look_map] at hu
  obtain ⟨u0, h1, rfl⟩ := Option.map_eq_some_iff.1 hu
  exact ⟨u0, hs0.t i u0 h1, rfl, fun q hq => keysIn_iff.1 c2 q (List.mem_flatMap.2 ⟨(i, u0), look_mem _ _ _ h1, hq⟩)⟩

theorem evRec_inv (hE : EnvOk P E tB) {ρ : FuncId → Option (Callee R)} (hρ : RhoOk P E tB W0 ρ) {o : Oper} (hd : ∀ d, o.dst = some d → d < 1000) {s : St} {K : GV → Delta → Option R} {ex : Bool} (h : evRec E ex ρ o s K = some r) :
    ∃ v D, K v D = some r ∧ ∀ S, Sub S s → (ex = true → Exact S s) → OpDoes P E tB W0 o S v (D.app S) := by
  have hd0 : o.dst.getD 0 < 1000 := by
    cases hod : o.dst with
    | none => simp
    | some d => exact hd d hod
  have hnil : ∀ S : St, Eqv S (Delta.none.app S) := fun S => ⟨fun i => by rw [Delta.look_t]; cases look S.t i <;> rfl, fun q => by rw [Delta.look_h]; simp only [Delta.none, look, Option.none_or, List.not_mem_nil, or_self, if_false]; cases look S.h q <;> rfl⟩
  have calm : evCalm E ρ o s (fun v => K v .none) = some r → ∃ v D, K v D = some r ∧ ∀ S, Sub S s → (ex = true → Exact S s) → OpDoes P E tB W0 o S v (D.app S) := by
    intro h
    obtain ⟨v, h1, h2⟩ := evCalm_inv hE hρ h
    exact ⟨v, .none, h1, fun S hS _ => OpDoes.eqv (CalmF.at h2 fun hs => hs.sub hS) (hnil S)⟩
  have whole := fun h => opRec_inv (K := K) (ex := ex) hE hρ hd (s := s) (r := r) h
  unfold evRec at h
  simp only at h
  split at h
  · rename_i x ho
    split at h
    · rename_i c hx
      split at h
      · rename_i e ht
        rw [nbeq] at h
        by_cases he : e = E.tb
        · simp [he] at h
        · simp only [he, decide_false, cond_false] at h
          refine ⟨_, _, h, fun S hS _ => OpDoes.eqv (row_does (st' := S) hd0 (e := e) (es := []) ?_ fun {X n I μ a w} hX hr hs => ?_) (eqv_new _ _ S)⟩
          · simp [okNew, Ob.isBld, Ob.isByte, nbeq, he]
          · have h1 := (hs.sub hS).evT o.type x
            rw [hX, hx] at h1
            have h2 : a.eval x = .slice none 0 0 := h1
            exact ⟨I, _, w, [], NewI.refl X I, hs, ⟨rfl, rfl, rfl, Nat.le_refl _, fun _ _ _ => rfl⟩, by simp only [execOp, ho, Sem.run_pure, h2], World.ownsRow_nil w X.B e (E.sz e), fun i hi => by simp at hi, fun b hb => by simp [Value.ownBlock] at hb⟩
      · cases h
    · refine ⟨_, .none, h, fun S hS _ => OpDoes.eqv (CalmF.at (ValDoes.f (run := fun a => pure (a.eval x)) (fun {X n I μ a w} hX hr hs => ⟨_, Sem.run_pure .., hX ▸ hs.evT o.type x⟩) fun a w y hy => ?_) fun hs => hs.sub hS) (hnil S)⟩
      simp only [Sem.run_pure, Result.ok.injEq, and_true] at hy
      simp only [execOp, ho, Sem.run_pure, hy]
  · rename_i t ho
    cases hc : !Nat.beq t E.tb && (isStruct (E.ty t) || isScalar (E.ty t))
    · rw [hc] at h; exact absurd h (by simp)
    · simp only [hc, cond_true] at h
      simp only [Bool.and_eq_true, nbeq, Bool.not_eq_true', decide_eq_false_iff_not, Bool.or_eq_true] at hc
      obtain ⟨i, z, h1, h2, h3, _, _⟩ := hE.zero t hc.2
      refine ⟨_, _, h, fun S hS _ => OpDoes.eqv (box_does hd0 (T := t) hc.1 (fun v hv hk => by rw [zeroOf_keys _ _ v hv] at hk; cases hk) fun {X n I μ a w} hX hr hs => ⟨z.cells, h3 I μ, ?_⟩) (eqv_new _ _ S)⟩
      simp only [execOp, ho]
      exact run_value (by simp [Instr.alloc, run_zero h1 h2, run_newVar'])
  · rename_i t x ho
    cases hc : !Nat.beq t E.tb
    · rw [hc] at h; exact absurd h (by simp)
    · simp only [hc, cond_true] at h
      simp only [nbeq, Bool.not_eq_true', decide_eq_false_iff_not] at hc
      obtain ⟨cs, h, _, _, hk, hrep⟩ := wCells_inv hE h
      cases hin : isIn (cs.flatMap CV.keys) (o.dst.getD 0)
      · simp only [hin, cond_false] at h
        have hno : ∀ v, v ∈ cs → o.dst.getD 0 ∉ v.keys := fun v hv hd => by
          rw [isIn_iff.2 (List.mem_flatMap.2 ⟨v, hv, hd⟩)] at hin
          cases hin
        refine ⟨_, _, h, fun S hS _ => OpDoes.eqv (box_does hd0 (T := t) hc hno fun {X n I μ a w} hX hr hs => ?_) (eqv_new _ _ S)⟩
        have h1 := (hs.sub hS).evT t x
        rw [hX] at h1
        refine ⟨_, (hrep hr h1).1, ?_⟩
        simp only [execOp, ho]
        exact run_value (by simp [Instr.box, run_newVar'])
      · rw [hin] at h; exact absurd h (by simp)
  · rename_i t len parts ho
    split at h
    · rename_i e ht
      cases hall : parts.toList.all fun x => (s.evT E e x.2).pure?.isSome
      · rw [hall, cond_false] at h; exact whole h
      rw [hall, cond_true] at h
      cases hb : Nat.ble (len * E.sz e) 16777216 && !Nat.beq e E.tb
      · rw [hb] at h; exact absurd h (by simp)
      · simp only [hb, cond_true] at h
        simp only [Bool.and_eq_true, Bool.not_eq_true', nbeq, decide_eq_false_iff_not] at hb
        have hle := Nat.le_of_ble_eq_true hb.1
        obtain ⟨es, h, hl, hpl, hidx, hrep⟩ := wParts0_inv hE h
        simp only [List.reverse_nil, List.nil_append] at h
        refine ⟨_, _, h, fun S hS _ => OpDoes.eqv (row_does (st' := S) hd0 (e := e) (es := es) ?_ fun {X n I μ a w} hX hr hs => ?_) (eqv_new _ _ S)⟩
        · simp [okNew, Ob.isBld, Ob.isByte, nbeq, hb.2]
        · obtain ⟨v, w', xs, m1, m2, m3, m4, m5⟩ := buildSlice_run (B := X.B) hE ho ht hle hl hpl hidx hs.bw (hrep hX (hs.sub hS))
          exact ⟨I, v, w', xs, NewI.refl X I, hs, m1, m2, m3, m4, m5⟩
    · cases h
  · rename_i t ad x ho
    split at h
    · rename_i q off hq
      split at h
      · rename_i cs hol
        obtain ⟨xs, h, hxl, hk, _, hrep⟩ := wCells_inv hE h
        cases hb : Nat.ble (off + xs.length) cs.length
        · rw [hb] at h; exact absurd h (by simp)
        · simp only [hb, cond_true] at h
          have hle := Nat.le_of_ble_eq_true hb
          refine ⟨_, _, h, fun S hS _ => OpDoes.eqv (S1 := setOb q (.box (splice cs off xs)) { S with h := (q, .box cs) :: S.h }) (fun {X n I μ a w} hX hB hW hr hs => ?_) (eqv_set q _ _ S)⟩
          have hs' := hs.sub (hS.over hol)
          have hss := hs.sub hS
          have hy := hss.ev ad
          rw [hq] at hy
          have hol' : look ((q, Ob.box cs) :: S.h) q = some (.box cs) := by rw [look_cons, if_pos rfl]
          have hev := hss.evT t x
          rw [hX] at hev
          obtain ⟨k1, k2⟩ := hrep hr hev
          obtain ⟨inf, i1, i2⟩ := hE.info hk
          obtain ⟨w', m1, m2⟩ := hs'.boxStore (P := P) (t := t) hol' hy k1 hle ⟨inf, i1, by omega⟩
          refine Upon.of_skip (w' := w') ?_ ⟨I, μ, NewI.refl X I, ⟨hr, Keep.refl μ⟩, m2, RepG.any _ _ _⟩
          simp only [execOp, ho, Sem.run_bind, m1, Result.andThen_ok, Sem.run_pure]
      · cases h
    · exact whole h
  · rename_i t ad ho
    split at h
    · exact whole h
    · exact calm h
  · exact whole h
  · exact whole h
  · exact whole h
  · rename_i args ts ho
    cases hsz : Nat.beq ts.size 2 && Nat.beq args.size 2
    · rw [hsz] at h; exact absurd h (by simp)
    · simp only [hsz, cond_true] at h
      simp only [Bool.and_eq_true, nbeq, decide_eq_true_eq] at hsz
      split at h
      · rename_i e ht hbt
        have hbt' : ts.getD 0 0 = ts.getD 1 0 := Nat.eq_of_beq_eq_true hbt
        have hrun : ∀ (a : Act) (w w' : World) (v y v' : Value), a.eval (args.getD 0 (.const .nilIface)) = v → a.eval (args.getD 1 (.const .nilIface)) = y → (Builtin.append_ #[ts.getD 0 0, ts.getD 0 0] o.type #[v, y]).run P w = .ok v' w' →
            (execOp a.eval o).run P w = .ok (.value v') w' := by
          intro a w w' v y v' hv hy hr
          rw [run_builtin ho, two_types hsz.1, two_args hsz.2, hv, hy, ← hbt']
          exact run_value hr
        rw [nbeq] at h
        by_cases he : e = E.tb
        · simp [he] at h
        · simp only [he, decide_false, cond_false] at h
          obtain ⟨fs, h, hw⟩ := wSl_inv h
          have hpos : 0 < E.sz e := by
            obtain ⟨_, _, _, _, _, _, _, hp, _⟩ := hE.slice _ e ht
            exact hp
          split at h
          · rename_i q hq
            split at h
            · rename_i e' es hol
              cases hc : Nat.beq e' e && decide (es.length + fs.length ≤ LIM)
              · rw [hc] at h; exact absurd h (by simp)
              · simp only [hc, cond_true] at h
                simp only [Bool.and_eq_true, nbeq, decide_eq_true_eq] at hc
                obtain ⟨rfl, hlim⟩ := hc
                refine ⟨_, _, h, fun S hS _ => OpDoes.eqv (fun {X n I μ a w} hX hB hW hr hs => ?_) (eqv_move q (.row e' es) _ S)⟩
                subst hX
                have hs' := hs.sub (hS.over hol)
                have hss := hs.sub hS
                have hv := hss.evT (ts.getD 0 0) (args.getD 0 (.const .nilIface))
                rw [hq] at hv
                have hol' : look ((q, Ob.row e' es) :: S.h) q = some (.row e' es) := by rw [look_cons, if_pos rfl]
                obtain ⟨v', w', k1, k2, k3⟩ := append_own (X := X) hE o.type ht hr hs' hol' hv (hw rfl hpos hss (hss.evT _ _)) hlim
                exact Upon.of_run (hrun a w w' _ _ v' rfl rfl k1) ⟨I, _, NewI.refl X I, k2, k3, ⟨_, upd_same μ q _⟩⟩
            · cases h
          · rename_i c hq
            by_cases hlim : fs.length ≤ LIM
            · simp only [hlim, decide_true, cond_true] at h
              refine ⟨_, _, h, fun S hS _ => OpDoes.eqv (row_does (st' := S) hd0 (e := e) (es := fs) ?_ fun {X n I μ a w} hX hr hs => ?_) (eqv_new _ _ S)⟩
              · simp [okNew, Ob.isBld, Ob.isByte, nbeq, he]
              · have hss := hs.sub hS
                have hv := hss.evT (ts.getD 0 0) (args.getD 0 (.const .nilIface))
                rw [hX, hq] at hv
                have hv' : a.eval (args.getD 0 (.const .nilIface)) = .slice none 0 0 := hv
                have hy := hss.evT (ts.getD 1 0) (args.getD 1 (.const .nilIface))
                rw [hX] at hy
                obtain ⟨v', w', zs, k1, k2, k3, k4, k5⟩ := run_app (X := X) (I := I) (es := []) hE ht o.type (World.ownsRow_nil w X.B e (E.sz e)) (RowRep.nil _ _ _) (hw hX hpos hss hy) (by simpa using hlim) hs.bw
                refine ⟨I, v', w', zs, NewI.refl X I, hs, k4, hrun a w w' _ _ v' hv' rfl k1, k2, k3, fun b hb => ?_⟩
                rcases k5 with z | z
                · rw [z] at hb
                  simp [Value.ownBlock] at hb
                · rw [z] at hb
                  injection hb with hb
                  omega
            · simp [hlim] at h
          · cases h
      · cases h
  · rename_i f args ts ho
    split at h
    · rename_i g rs hf
      cases hbb : bnd g && !Nat.beq args.size 0
      · rw [hbb, cond_false] at h
        have hbn : bnd g = true → args.size = 0 := fun hb => by
          rw [hb, Bool.true_and, Bool.not_eq_false', nbeq, decide_eq_true_eq] at hbb
          exact hbb
        split at h
        · rename_i F hg
          have hp := hρ (unb g) _ hg
          rw [nbeq] at h
          by_cases hsz : ts.size = args.size
          · simp only [hsz, decide_true, cond_true] at h
            exact callRec_inv hE ho hf hbn hsz hp h
          · simp [hsz] at h
        · split at h
          · exact calm h
          · exact whole h
        · cases h
      · rw [hbb] at h; cases h
    · cases h
  · exact calm h
end
end Go.Dip
end

/- An ideal semantics of the model's code, part 27: regions that draw their order. -/
section
set_option linter.unusedVariables false
set_option linter.unusedSimpArgs false
namespace Go.Dip
section
variable {R : Type} {r : R} {P : Program} {E : Env} {tB : TypeId} {W0 : World}

theorem apartB_iff {c d : Rec} (h : apartB c d = true) : Apart c d := by
  simp only [apartB, Bool.and_eq_true, List.all_eq_true] at h
  obtain ⟨h1, h2, h3, h4⟩ := h
  have no : ∀ {l : List Nat} {z : Nat}, (!isIn l z) = true → z ∉ l := fun {l z} h hm => by rw [isIn_iff.2 hm] at h; cases h
  refine ⟨?_, fun z hz => ?_, fun z hz => ?_, fun z hz => ?_⟩
  · intro i e1 e2
    simp [dstB, e1, e2] at h1
  · exact no (h3 z hz)
  · exact no (h4 z hz)
  · exact no (h2 z hz)
theorem freeB_iff {c : Rec} {s : St} (h : freeB c s = true) : Free c s := by
  simp only [freeB, Bool.and_eq_true, List.all_eq_true, Option.isNone_iff_eq_none] at h
  obtain ⟨h1, h2⟩ := h
  have no : ∀ {l : List Nat} {z : Nat}, (!isIn l z) = true → z ∉ l := fun {l z} h hm => by rw [isIn_iff.2 hm] at h; cases h
  refine ⟨fun i e => ?_, fun z hz => h2.1 z hz, fun z hz => ⟨fun i v hv => ?_, fun q o ho => ?_⟩⟩
  · rw [e] at h1
    simpa using h1
  · exact no ((h2.2 z hz).1 (i, v) (look_mem _ _ _ hv))
  · exact no ((h2.2 z hz).2 (q, o) (look_mem _ _ _ ho))
theorem meetOk_inv {p : Nat} {d : Rec} {z : St} : ∀ {l : List (Rec × St)} {i : Nat}, meetOk p d z i l = true → ∀ j x, l[j]? = some x → Nat.testBit p (i + j) = false → Apart x.1 d ∧ Free x.1 z ∧ Free d x.2
  | [], i, _, j, x, hj, _ => by simp at hj
  | y :: l, i, h, j, x, hj, hp => by
    simp only [meetOk, Bool.and_eq_true, Bool.or_eq_true] at h
    cases j with
    | zero =>
      simp only [List.getElem?_cons_zero, Option.some.injEq] at hj
      subst hj
      rcases h.1 with e | e
      · rw [Nat.add_zero] at hp; rw [hp] at e; cases e
      · simp only [pairOk, Bool.and_eq_true] at e
        exact ⟨apartB_iff e.1, freeB_iff e.2.1, freeB_iff e.2.2⟩
    | succ j => exact meetOk_inv h.2 j x (by simpa using hj) (by rw [← hp]; congr 1; omega)
theorem waitsFor_inv {tab : List Nat} {i : Nat} : ∀ {l : List Edge}, Nat.testBit (waitsFor tab l) i = true → ∃ e, e ∈ l ∧ bindsAny e = true ∧ (i = e.on ∨ Nat.testBit (tab.getD e.on 0) i = true)
  | [], h => by simp [waitsFor] at h
  | e :: l, h => by
    simp only [waitsFor] at h
    cases hb : Region.binds .any e
    · rw [hb] at h
      obtain ⟨e', h1, h2⟩ := waitsFor_inv (l := l) h
      exact ⟨e', by simp [h1], h2⟩
    · rw [hb] at h
      simp only [cond_true, Nat.testBit_or, Bool.or_eq_true] at h
      rcases h with h | h | h
      · refine ⟨e, by simp, hb, .inl ?_⟩
        rw [Nat.one_shiftLeft, Nat.testBit_two_pow] at h
        have : e.on = i := by simpa using h
        exact this.symm
      · exact ⟨e, by simp, hb, .inr h⟩
      · obtain ⟨e', h1, h2⟩ := waitsFor_inv (l := l) h
        exact ⟨e', by simp [h1], h2⟩

theorem look_footT {st : St} {i : Nat} {v : GV} : ∀ {ts : List Tmp}, look (footT st ts) i = some v → look st.t i = some v
  | [], h => by simp [footT, look] at h
  | t :: ts, h => by
    simp only [footT] at h
    split at h
    · rename_i u hu
      rw [look_cons] at h
      by_cases e : i = t
      · rw [if_pos e] at h; rw [e, ← h]; exact hu
      · rw [if_neg e] at h; exact look_footT h
    · exact look_footT h
theorem Exact.sub {S s : St} (h : Exact S s) : Sub S s := ⟨fun i v hv => ⟨v, [], h.1 i v hv, rfl⟩, fun q o ho => ⟨o, [], h.2 q o ho, rfl⟩⟩
theorem Exact.of_eqv {S S' s : St} (h : Exact S s) (e : Eqv S S') : Exact S' s := ⟨fun i v hv => by rw [← e.1 i]; exact h.1 i v hv, fun q o ho => by rw [← e.2 q]; exact h.2 q o ho⟩
theorem foot_exact (st : St) (ts : List Tmp) : Exact st (foot st ts) := ⟨fun i v hv => look_footT hv, fun q o ho => look_footH' ho⟩
theorem footO_exact (st : St) (o : Op) (ts : List Tmp) : Exact st (footO st o ts) := by
  unfold footO
  cases isLight o
  · exact foot_exact st ts
  · exact ⟨fun i v hv => look_footT hv, fun q o ho => by simp [look] at ho⟩
theorem footO_t (st : St) (o : Op) (ts : List Tmp) : (footO st o ts).t = footT st ts := by
  unfold footO
  cases isLight o <;> rfl
theorem strikesNot_inv {p : Nat} : ∀ {l : List (Rec × St)} {i : Nat}, strikesNot p i l = true → ∀ j y, l[j]? = some y → Nat.testBit p (i + j) = false → y.1.del.zs = []
  | [], _, _, j, y, hj, _ => by simp at hj
  | x :: l, i, h, j, y, hj, hp => by
    simp only [strikesNot, Bool.and_eq_true, Bool.or_eq_true, List.isEmpty_iff] at h
    cases j with
    | zero =>
      simp only [List.getElem?_cons_zero, Option.some.injEq] at hj
      subst hj
      rcases h.1 with e | e
      · rw [Nat.add_zero] at hp; rw [hp] at e; cases e
      · exact e
    | succ j => exact strikesNot_inv h.2 j y (by simpa using hj) (by rw [← hp]; congr 1; omega)

/-- All of some records, one after the other. -/
def foldR (F : List (Rec × St)) (S : St) : St := F.foldl (fun S x => x.1.upd S) S
def recAt (F : List (Rec × St)) (i : Nat) : Rec × St := F.getD i (⟨none, .any, .none⟩, ⟨[], []⟩)
theorem foldL_all {F : List (Rec × St)} {S : St} : ∀ (i : Nat), i ≤ F.length → foldL (fun k => (recAt F k).1) (fun _ => true) (List.range i) S = foldR (F.take i) S
  | 0, _ => by simp [foldL, foldR]
  | i + 1, h => by
    rw [List.range_succ, foldL_append, foldL_all i (by omega)]
    have hi : i < F.length := by omega
    have : F.take (i + 1) = F.take i ++ [recAt F i] := by
      rw [List.take_add_one]
      simp [recAt, List.getD_eq_getElem?_getD, hi]
    rw [this]
    simp [foldL, foldR]

/-- What a record owes. -/
structure FactAt (P : Program) (E : Env) (tB : TypeId) (W0 : World) (n : Nat) (ops : Array Oper) (st0 : St) (F : List (Rec × St)) (T : List Nat) (i : Nat) (x : Rec × St) (p : Nat) (o : Oper) : Prop where
  dst : x.1.dst = o.dst ∧ okDst n o.dst = true
  edges : ∀ e, e ∈ o.after → bindsAny e = true → e.on < i
  tab : p = waitsFor (T.take i) o.after.toList
  exa : Exact (foldR (F.take i) st0) x.2
  meet : ∀ (j : Nat) y, (F.take i)[j]? = some y → Nat.testBit p j = false → Apart y.1 x.1 ∧ Free y.1 x.2 ∧ Free x.1 y.2
  does : ∀ S, Sub S x.2 → (strikesNot p 0 (F.take i) = true → Exact S x.2) → ∀ {X : Cx} {I : Mem} {μ : Locs} {a : Act} {w : World}, X.E = E → X.tB = tB → X.W0 = W0 → RowsOk μ → Sim X n I μ S a w →
    (Region.wanted o (yielded ops a.tmps) = true ∧ Upon P o a w fun v w' => ∃ J ν, NewI X I J ∧ (RowsOk ν ∧ Keep μ ν) ∧ Sim X n J ν (x.1.del.app S) a w' ∧ RepG J ν x.1.v v) ∨
    (Region.wanted o (yielded ops a.tmps) = false ∧ x.1.v = .pv .gone ∧ x.1.del = .none)
def Facts (P : Program) (E : Env) (tB : TypeId) (W0 : World) (n : Nat) (ops : Array Oper) (st0 : St) (F : List (Rec × St)) (T : List Nat) : Prop :=
  ∀ (i : Nat) x p o, F[i]? = some x → T[i]? = some p → ops[i]? = some o → FactAt P E tB W0 n ops st0 F T i x p o
theorem Facts.snoc {n : Nat} {ops : Array Oper} {st0 : St} {F : List (Rec × St)} {T : List Nat} (h : Facts P E tB W0 n ops st0 F T) {k : Nat} (hF : F.length = k) (hT : T.length = k) {x : Rec × St} {p : Nat} {o : Oper} (ho : ops[k]? = some o) (hx : FactAt P E tB W0 n ops st0 F T k x p o) :
    Facts P E tB W0 n ops st0 (F ++ [x]) (T ++ [p]) := by
  intro i y q o' hy hq ho'
  by_cases e : i < k
  · rw [List.getElem?_append_left (by omega)] at hy hq
    have := h i y q o' hy hq ho'
    exact ⟨this.dst, this.edges, by rw [List.take_append_of_le_length (by omega)]; exact this.tab, by rw [List.take_append_of_le_length (by omega)]; exact this.exa, by rw [List.take_append_of_le_length (by omega)]; exact this.meet, by rw [List.take_append_of_le_length (by omega)]; exact this.does⟩
  · have hi : i = k := by
      have := (List.getElem?_eq_some_iff.1 hy).1
      simp at this
      omega
    subst hi
    rw [List.getElem?_append_right (by omega)] at hy hq
    simp [hF] at hy
    simp [hT] at hq
    subst hy hq
    rw [ho] at ho'
    injection ho' with ho'
    subst ho'
    exact ⟨hx.dst, hx.edges, by rw [List.take_append_of_le_length (by omega)]; exact hx.tab, by rw [List.take_append_of_le_length (by omega)]; exact hx.exa, by rw [List.take_append_of_le_length (by omega)]; exact hx.meet, by rw [List.take_append_of_le_length (by omega)]; exact hx.does⟩

theorem evDraw_inv (hE : EnvOk P E tB) {ρ : FuncId → Option (Callee R)} (hρ : RhoOk P E tB W0 ρ) {n : Nat} {ops : Array Oper} {st0 : St} : ∀ {l : List Oper} {k : Nat} {tab : List Nat} {st : St} {recs : List (Rec × St)} {K : St → Option R}, l = ops.toList.drop k → k ≤ ops.size → recs.length = k → tab.length = k →
    Facts P E tB W0 n ops st0 recs tab → Eqv st (foldR recs st0) → evDraw E n ρ ops.toList l k tab st recs K = some r →
    ∃ st' F T, K st' = some r ∧ F.length = ops.size ∧ T.length = ops.size ∧ Facts P E tB W0 n ops st0 F T ∧ Eqv st' (foldR F st0)
  | [], k, tab, st, recs, K, hl, hks, hr, ht, hf, he, h => by
    have hk : ops.size ≤ k := by
      have := congrArg List.length hl
      simp at this
      omega
    exact ⟨st, recs, tab, h, by omega, by omega, hf, he⟩
  | o :: l, k, tab, st, recs, K, hl, hks, hr, ht, hf, he, h => by
    have hkl : k < ops.size := by
      rcases Nat.lt_or_ge k ops.size with h' | h'
      · exact h'
      · rw [List.drop_eq_nil_of_le (by simpa using h')] at hl; cases hl
    have hdrop : ops.toList.drop k = ops.toList[k] :: ops.toList.drop (k + 1) := by rw [List.drop_eq_getElem_cons (by simpa using hkl)]
    rw [hdrop] at hl
    injection hl with ho hl
    have ho' : ops[k]? = some o := by rw [ho]; simp [hkl]
    simp only [evDraw] at h
    cases hc : okDst n o.dst && edgesOk k o.after.toList
    · rw [hc] at h; exact absurd h (by simp)
    · simp only [hc, cond_true] at h
      simp only [Bool.and_eq_true] at hc
      have hedge : ∀ e, e ∈ o.after → bindsAny e = true → e.on < k := by
        intro e he' hb
        have := (List.all_eq_true.1 hc.2) e (by simpa using he')
        simp only [Bool.or_eq_true, Bool.not_eq_true', Nat.blt_eq] at this
        rcases this with z | z
        · have hb' : Region.binds .any e = true := hb
          rw [z] at hb'; cases hb'
        · exact z
      -- one record more
      have go : ∀ {st1 : St} {v : GV} {D : Delta} {s : St}, Eqv st1 st → Exact st1 s → (∀ S, Sub S s → (strikesNot (waitsFor tab o.after.toList) 0 recs = true → Exact S s) → ∀ {X : Cx} {I : Mem} {μ : Locs} {a : Act} {w : World}, X.E = E → X.tB = tB → X.W0 = W0 → RowsOk μ → Sim X n I μ S a w →
            (Region.wanted o (yielded ops a.tmps) = true ∧ Upon P o a w fun x w' => ∃ J ν, NewI X I J ∧ (RowsOk ν ∧ Keep μ ν) ∧ Sim X n J ν (D.app S) a w' ∧ RepG J ν v x) ∨ (Region.wanted o (yielded ops a.tmps) = false ∧ v = .pv .gone ∧ D = .none)) →
          (bif meetOk (waitsFor tab o.after.toList) ⟨o.dst, v, D⟩ s 0 recs then evDraw E n ρ ops.toList l (k + 1) (tab ++ [waitsFor tab o.after.toList]) ((⟨o.dst, v, D⟩ : Rec).upd st1) (recs ++ [(⟨o.dst, v, D⟩, s)]) K else none) = some r →
          ∃ st' F T, K st' = some r ∧ F.length = ops.size ∧ T.length = ops.size ∧ Facts P E tB W0 n ops st0 F T ∧ Eqv st' (foldR F st0) := by
        intro st1 v D s he1 hsub hdoes h
        cases hm : meetOk (waitsFor tab o.after.toList) ⟨o.dst, v, D⟩ s 0 recs
        · rw [hm] at h; exact absurd h (by simp)
        · simp only [hm, cond_true] at h
          refine evDraw_inv hE hρ (recs := recs ++ [(⟨o.dst, v, D⟩, s)]) hl hkl (by simp [hr]) (by simp [ht]) (hf.snoc hr ht ho' ⟨⟨rfl, hc.1⟩, hedge, ?_, ?_, ?_, by rw [List.take_of_length_le (by omega)]; exact hdoes⟩) ?_ h
          · rw [List.take_of_length_le (by omega)]
          · rw [List.take_of_length_le (by omega)]
            exact hsub.of_eqv (he1.trans he)
          · rw [List.take_of_length_le (by omega)]
            intro j y hy hp
            exact meetOk_inv hm j y hy (by rw [Nat.zero_add]; exact hp)
          · simp only [foldR, List.foldl_append, List.foldl_cons, List.foldl_nil]
            exact (he1.trans he).upd _
      split at h
      · rename_i hg
        obtain ⟨v, D, h, hd⟩ := evRec_inv hE hρ (okDst_lt hc.1) h
        exact go (Eqv.refl st) (footO_exact st _ _) (fun S hS hx {X I μ a w} hX hB hW hr' hs => .inl ⟨by simp [Region.wanted, hg], hd S hS hx hX hB hW hr' hs⟩) h
      · rename_i g hg
        split at h
        · rename_i t htt
          split at h
          · rename_i hu
            have hgone := isUndef_inv hu
            refine go (Eqv.refl st) (foot_exact st _) (fun S hS _ {X I μ a w} hX hB hW hr' hs => .inr ⟨?_, rfl, rfl⟩) h
            have hlt : look st.t t = some (.pv .gone) := by
              unfold St.get at hgone
              cases hl' : look st.t t with
              | none => rw [hl'] at hgone; cases hgone
              | some u => rw [hl'] at hgone; exact congrArg some hgone
            have h2 : look (foot st [t]).t t = some (.pv .gone) := by
              simp only [foot, footT, hlt, look_cons, if_true]
            have h3 := (hs.sub hS).t t _ h2
            simp only [Region.wanted, hg, yielded_gone rfl htt (rep_gone h3)]
            simp
          obtain ⟨b, st1, h, hb, hst⟩ := splitB_inv h
          have hlt : look st1.t t = some (.pv (.bool b)) := by
            rcases hst with rfl | ⟨t', ht', rfl⟩
            · have hb' : st1.get t = .pv (.bool b) := hb
              unfold St.get at hb'
              cases hl' : look st1.t t with
              | none => rw [hl'] at hb'; cases hb'
              | some u => rw [hl'] at hb'; exact congrArg some hb'
            · injection ht' with ht'
              subst ht'
              simp only [St.put, look_cons, if_true]
          have heq : Eqv st1 st := by
            rcases hst with rfl | ⟨t', ht', rfl⟩
            · exact Eqv.refl _
            · injection ht' with ht'
              subst ht'
              refine ⟨fun i => ?_, fun q => rfl⟩
              simp only [St.put, look_cons]
              by_cases e : i = t
              · rw [if_pos e, e]
                have hb' : st.get t = .pv (.bool b) := hb
                unfold St.get at hb'
                cases hl' : look st.t t with
                | none => rw [hl'] at hb'; cases hb'
                | some u => rw [hl'] at hb'; exact (congrArg some hb').symm
              · rw [if_neg e]
          have hsees : ∀ (f : St) (ts : List Tmp) S, f.t = footT st1 (t :: ts) → Sub S f → ∀ {X : Cx} {I : Mem} {μ : Locs} {a : Act} {w : World}, Sim X n I μ S a w → yielded ops a.tmps g.1 = some b := by
            intro f ts S hft hS X I μ a w hs
            have h1 := hs.sub hS
            have h2 : look f.t t = some (.pv (.bool b)) := by
              rw [hft]
              simp only [footT, hlt, look_cons, if_true]
            have h3 := h1.t t _ h2
            exact yielded_eq rfl htt (rep_bool h3)
          split at h
          · rename_i hbg
            obtain ⟨v, D, h, hd⟩ := evRec_inv hE hρ (okDst_lt hc.1) h
            refine go heq (footO_exact st1 _ _) (fun S hS hx {X I μ a w} hX hB hW hr' hs => .inl ⟨?_, hd S hS hx hX hB hW hr' hs⟩) h
            have e : b = g.2 := by simpa using hbg
            simp only [Region.wanted, hg, hsees _ _ S (footO_t st1 _ _) hS hs, e]
            simp
          · rename_i hbg
            refine go heq (foot_exact st1 _) (fun S hS _ {X I μ a w} hX hB hW hr' hs => .inr ⟨?_, rfl, rfl⟩) h
            have e : ¬ b = g.2 := by simpa using hbg
            simp only [Region.wanted, hg, hsees _ [] S rfl hS hs]
            simp [e]
        · cases h

/-- A region that draws its order. -/
theorem draw_wp (hE : EnvOk P E tB) {ρ : FuncId → Option (Callee R)} (hρ : RhoOk P E tB W0 ρ) {n id : Nat} {ops : Array Oper} {st : St} {K : St → Option R} (h : evDraw E n ρ ops.toList ops.toList 0 [] st [] K = some r) :
    ∃ st', K st' = some r ∧ ∀ {X : Cx} {I : Mem} {μ : Locs} {a : Act} {w : World} {Q : Exit → Act → World → Prop}, X.E = E → X.tB = tB → X.W0 = W0 → RowsOk μ → Sim X n I μ st a w →
      Then E tB W0 X n I μ st' (Q .normal) → (Code.region id ops true).wp P Q a w := by
  obtain ⟨st', F, T, h1, hF, hT, hf, he⟩ := evDraw_inv (P := P) (tB := tB) (W0 := W0) (st0 := st) hE hρ (by simp) (Nat.zero_le _) rfl rfl (fun i x p o hx => by simp at hx) (Eqv.refl st) h
  refine ⟨st', h1, fun {X I μ a w Q} hX hB hW hr hs hQ => ?_⟩
  -- by number
  have at' : ∀ i, i < ops.size → ∃ x p o, recAt F i = x ∧ T[i]? = some p ∧ ops[i]? = some o ∧ FactAt P E tB W0 n ops st F T i x p o := by
    intro i hi
    have e1 : F[i]? = some F[i] := by simp [show i < F.length by omega]
    have e2 : T[i]? = some T[i] := by simp [show i < T.length by omega]
    have e3 : ops[i]? = some ops[i] := by simp [hi]
    exact ⟨F[i], T[i], ops[i], by simp [recAt, List.getD_eq_getElem?_getD, show i < F.length by omega], e2, e3, hf i _ _ _ e1 e2 e3⟩
  refine wp_region_any hE.mixed ?_
  refine orders (n := n) (X := X) (c := fun k => (recAt F k).1) (s := fun k => (recAt F k).2) (st0 := st) (pre := fun i k => Nat.testBit (T.getD k 0) i = true) (ex := fun i => strikesNot (T.getD i 0) 0 (F.take i) = true) (I := I) (μ := μ) ?_ ?_ ?_ ?_ ?_ ?_ ?_ ops.size _ I μ a _ (by simp) ?_ (NewI.refl X I) hr (Keep.refl μ) ?_ ?_
  · intro i hi hx
    obtain ⟨x, p, o, h1', h2, h3, h4⟩ := at' i hi
    have ep : T.getD i 0 = p := by rw [List.getD_eq_getElem?_getD, h2]; rfl
    rw [ep] at hx
    refine ⟨?_, fun j hj hp => ?_⟩
    · rw [foldL_all i (by omega)]
      simp only [h1']
      exact h4.exa
    · have hjF : (F.take i)[j]? = some (recAt F j) := by
        rw [List.getElem?_take, if_pos hj]
        simp [recAt, List.getD_eq_getElem?_getD, show j < F.length by omega]
      refine strikesNot_inv hx j _ hjF ?_
      rw [Nat.zero_add, ← ep]
      simpa using hp
  · intro k o ho e hem hb
    have hk : k < ops.size := (Array.getElem?_eq_some_iff.1 ho).1
    obtain ⟨x, p, o', _, _, h3, h4⟩ := at' k hk
    rw [ho] at h3
    injection h3 with h3
    subst h3
    exact h4.edges e hem hb
  · intro L hcl hlt i k
    induction k using Nat.strongRecOn with
    | _ k ih =>
      intro hk hp
      obtain ⟨x, p, o, _, h2, h3, h4⟩ := at' k (hlt k hk)
      have hp' : Nat.testBit p i = true := by
        rw [List.getD_eq_getElem?_getD, h2] at hp
        exact hp
      rw [h4.tab] at hp'
      obtain ⟨e, e1, e2, e3⟩ := waitsFor_inv hp'
      have hem : e ∈ o.after := by simpa using e1
      have hlt' := h4.edges e hem e2
      have hL := hcl k o hk h3 e hem e2
      rcases e3 with rfl | e3
      · exact hL
      · refine ih e.on hlt' hL ?_
        have : (T.take k).getD e.on 0 = T.getD e.on 0 := by
          simp only [List.getD_eq_getElem?_getD, List.getElem?_take, hlt', if_true]
        rw [← this]
        exact e3
  · intro i k hik hk hp
    obtain ⟨x, p, o, h1', h2, h3, h4⟩ := at' k hk
    have hp' : Nat.testBit p i = false := by
      rw [List.getD_eq_getElem?_getD, h2] at hp
      simpa using hp
    have hi : (F.take k)[i]? = some (recAt F i) := by
      rw [List.getElem?_take, if_pos hik]
      simp [recAt, List.getD_eq_getElem?_getD, show i < F.length by omega]
    rw [h1']
    exact h4.meet i _ hi hp'
  · intro i hi
    obtain ⟨x, p, o, h1', h2, h3, h4⟩ := at' i hi
    rw [foldL_all i (by omega)]
    simp only [h1']
    exact h4.exa.sub
  · intro i hi S J ν a' w' m1 m2 m3 m4 hS hSx K' hK
    obtain ⟨x, p, o, h1', h2, h3, h4⟩ := at' i hi
    have ep : T.getD i 0 = p := by rw [List.getD_eq_getElem?_getD, h2]; rfl
    rw [ep] at hSx
    simp only [h1'] at hS hSx hK
    rcases h4.does S hS hSx hX hB hW m2 m4 with ⟨q1, q2⟩ | ⟨q1, q2, q3⟩
    · refine q2.wpOp h3 q1 ?_
      rintro v w2 ⟨L, κ, n1, ⟨n2, n2'⟩, n3, n4⟩
      refine hK L κ _ w2 (m1.trans n1) n2 (m3.trans n2') ?_
      rw [← h4.dst.1]
      exact n3.put n4 (by rw [h4.dst.1]; exact h4.dst.2)
    · refine wpOp_skip h3 q1 (hK J ν _ w' m1 m2 m3 ?_)
      have e : Eqv (S.put x.1.dst x.1.v) (x.1.upd S) := by
        have hnil : Eqv S (x.1.del.app S) := by
          rw [q3]
          exact ⟨fun i => by rw [Delta.look_t]; cases look S.t i <;> rfl, fun q => by rw [Delta.look_h]; simp only [Delta.none, look, Option.none_or, List.not_mem_nil, or_self, if_false]; cases look S.h q <;> rfl⟩
        unfold Rec.upd
        cases x.1.dst with
        | none => exact hnil
        | some d =>
          refine ⟨fun i => ?_, hnil.2⟩
          simp only [St.put, look_cons]
          rw [hnil.1 i]
      refine Sim.eqv ?_ e
      rw [← h4.dst.1, q2]
      exact m4.put RepP.gone (by rw [h4.dst.1]; exact h4.dst.2)
  · intro J ν a' w' m1 m2 m3 m4
    rw [foldL_all ops.size (by omega), List.take_of_length_le (by omega)] at m4
    exact hQ J ν a' w' m1 m2 m3 (m4.eqv he.symm)
  · intro k o hk _
    have : (Array.replicate ops.size false).getD k false = true := hk
    simp [Array.getD] at this
  · rw [foldL_congr (L' := fun _ => false) st (fun k hk => by simp [Array.getD])]
    have hno : ∀ (l : List Nat) (S : St), foldL (fun k => (recAt F k).1) (fun _ => false) l S = S := by
      intro l
      induction l with
      | nil => intro S; rfl
      | cons k l ih => intro S; simp only [foldL, Bool.false_eq_true, if_false]; exact ih S
    rw [hno]
    exact hs.drew
  · refine Nat.le_trans (List.length_filter_le _ _) (by simp)
end
end Go.Dip
end

/- An ideal semantics of the model's code, part 28: code. -/
section
set_option linter.unusedVariables false
set_option linter.unusedSimpArgs false
namespace Go.Dip
section
variable {R : Type} {r : R} {P : Program} {E : Env} {tB : TypeId} {W0 : World}

/-- What follows holds wherever it goes on. -/
def Good (E : Env) (tB : TypeId) (W0 : World) (X : Cx) (n : Nat) (I : Mem) (μ : Locs) (K : Exit → St → Option R) (r : R) (Q : Exit → Act → World → Prop) : Prop :=
  ∀ e st, K e st = some r → Then E tB W0 X n I μ st (Q e)
theorem Then.later {X : Cx} {n : Nat} {I J : Mem} {μ ν : Locs} {st : St} {F : Act → World → Prop} (h : Then E tB W0 X n I μ st F) (hI : NewI X I J) (hk : Keep μ ν) : Then E tB W0 X n J ν st F :=
  fun L κ a w h1 h2 h3 h4 => h L κ a w (hI.trans h1) h2 (hk.trans h3) h4
theorem Good.later {X : Cx} {n : Nat} {I J : Mem} {μ ν : Locs} {K : Exit → St → Option R} {Q : Exit → Act → World → Prop} (h : Good E tB W0 X n I μ K r Q) (hI : NewI X I J) (hk : Keep μ ν) : Good E tB W0 X n J ν K r Q :=
  fun e st hK => (h e st hK).later hI hk

/-- A state that says no more, behind what is frozen. -/
def Weak (E : Env) (S s : St) : Prop := ∀ {X : Cx} {n : Nat} {I : Mem} {μ : Locs} {a : Act} {w : World}, X.E = E → RowsOk μ → Sim X n I μ S a w → ∃ J ν, NewI X I J ∧ (RowsOk ν ∧ Keep μ ν) ∧ Sim X n J ν s a w
theorem Sub.weak {E : Env} {S s : St} (h : Sub S s) : Weak E S s := fun {X n I μ a w} _ hr hs => ⟨I, μ, NewI.refl X I, ⟨hr, Keep.refl μ⟩, hs.sub h⟩
theorem Weak.refl (E : Env) (S : St) : Weak E S S := fun {X n I μ a w} _ hr hs => ⟨I, μ, NewI.refl X I, ⟨hr, Keep.refl μ⟩, hs⟩
theorem Weak.trans {E : Env} {a b c : St} (h : Weak E a b) (k : Weak E b c) : Weak E a c := by
  intro X n I μ act w hX hr hs
  obtain ⟨J, ν, h1, ⟨hr', hk⟩, h2⟩ := h hX hr hs
  obtain ⟨L, κ, k1, ⟨kr, kk⟩, k2⟩ := k hX hr' h2
  exact ⟨L, κ, h1.trans k1, ⟨kr, hk.trans kk⟩, k2⟩
abbrev Wrap (R : Type) := St → (Exit → St → Option R) → Option R
def LoopOk (P : Program) (E : Env) (tB : TypeId) (W0 : World) (n : Nat) (c : Code) (L : Wrap R) : Prop :=
  ∀ st K r, L st K = some r → ∀ {X : Cx} {I : Mem} {μ : Locs} {a : Act} {w : World} {Q : Exit → Act → World → Prop}, X.E = E → X.tB = tB → X.W0 = W0 → RowsOk μ → Sim X n I μ st a w → Good E tB W0 X n I μ K r Q → (Code.loop c).wp P Q a w
def CutOk (E : Env) (n : Nat) (ρ : FuncId → Option (Callee R)) (Λ : Nat → Option (Wrap R)) (b : Code) (J : Wrap R) : Prop :=
  ∀ st K r, J st K = some r → ∃ (st0 : St) (M : Exit → St → St), Weak E st st0 ∧ (∀ e st', Weak E st' (M e st')) ∧ exec E n ρ Λ b st0 (fun e st' => K e (M e st')) = some r

theorem exec_sound (hE : EnvOk P E tB) {ρ : FuncId → Option (Callee R)} (hρ : RhoOk P E tB W0 ρ) {n : Nat} {Λ : Nat → Option (Wrap R)} : ∀ (c : Code) {st : St} {K : Exit → St → Option R}, (∀ c', c' ∈ loops c → ∀ L, Λ (2 * fr c') = some L → LoopOk P E tB W0 n c' L) →
    (∀ b, b ∈ seconds c → ∀ J, Λ (2 * fr b + 1) = some J → CutOk E n ρ Λ b J) → exec E n ρ Λ c st K = some r →
    ∀ {X : Cx} {I : Mem} {μ : Locs} {a : Act} {w : World} {Q : Exit → Act → World → Prop}, X.E = E → X.tB = tB → X.W0 = W0 → RowsOk μ → Sim X n I μ st a w → Good E tB W0 X n I μ K r Q → c.wp P Q a w := by
  intro c
  induction c with
  | skip =>
    intro st K _ _ h X I μ a w Q hX hB hW hr hs hG
    exact wp_skip (hG _ _ h I μ a w (NewI.refl X I) hr (Keep.refl μ) hs)
  | region id ops draw =>
    intro st K _ _ h X I μ a w Q hX hB hW hr hs hG
    cases draw with
    | false =>
      simp only [exec] at h
      obtain ⟨st', h1, h2⟩ := evOps_inv (P := P) (tB := tB) (W0 := W0) (k := 0) hE hρ (by simp) h
      refine wp_region ?_
      have := h2 (Q := Q) hX hB hW hr hs (hG _ _ h1)
      rw [Nat.sub_zero, ← List.range_eq_range'] at this
      exact this
    | true =>
      simp only [exec] at h
      obtain ⟨st', h1, h2⟩ := draw_wp (P := P) (tB := tB) (W0 := W0) (id := id) hE hρ h
      subst hX
      obtain ⟨J, hJ, hs'⟩ := (hs.foldAll (argRows X.E ρ st ops.toList)).freezeAll (argRows X.E ρ st ops.toList)
      exact h2 (Q := Q) rfl hB hW hr hs' ((hG _ _ h1).later hJ (Keep.refl μ))
  | seq x y ihx ihy =>
    intro st K hL hC h X I μ a w Q hX hB hW hr hs hG
    simp only [exec] at h
    refine wp_seq (ihx (fun c' hc => hL c' (by simp [loops, hc])) (fun b hb => hC b (by simp [seconds, hb])) h hX hB hW hr hs ?_)
    intro e st' hK
    have hby : ∀ {st1 : St} {M : Exit → St → St}, Weak E st' st1 → (∀ e st', Weak E st' (M e st')) → exec E n ρ Λ y st1 (fun e st' => K e (M e st')) = some r → Then E tB W0 X n I μ st' (y.wp P Q) := by
      intro st1 M hsub hM hy J ν a' w' m1 m2 m3 m4
      obtain ⟨L, κ0, q1, ⟨qr, qk⟩, q2⟩ := hsub hX m2 m4
      refine ihy (fun c' hc => hL c' (by simp [loops, hc])) (fun b hb => hC b (by simp [seconds, hb])) hy hX hB hW qr q2 ?_
      have hG' := hG.later (m1.trans q1) (m3.trans qk)
      intro e st2 hK2 J2 κ a2 w2 n1 n2 n3 n4
      obtain ⟨L2, κ2, q3, ⟨q5, q6⟩, q4⟩ := hM e st2 hX n2 n4
      exact hG' e _ hK2 L2 κ2 a2 w2 (n1.trans q3) q5 (n3.trans q6) q4
    have hself : Weak E st' st' := Weak.refl E st'
    cases e with
    | normal =>
      simp only at hK
      split at hK
      · rename_i J hJ
        obtain ⟨st0, M, h1, hM, h2⟩ := hC y (by simp [seconds]) J hJ st' K r hK
        exact hby h1 hM h2
      · exact hby (M := fun _ st => st) hself (fun _ st => Weak.refl E st) hK
    | _ => exact hG _ _ hK
  | cond c x y ihx ihy =>
    intro st K hL hC h X I μ a w Q hX hB hW hr hs hG
    simp only [exec] at h
    obtain ⟨b, st1, h, hb, hst⟩ := splitB_inv h
    obtain ⟨hs1, hv⟩ := hs.split hb hst
    cases b with
    | true => exact wp_cond_true hv (ihx (fun c' hc => hL c' (by simp [loops, hc])) (fun b hb => hC b (by simp [seconds, hb])) h hX hB hW hr hs1 hG)
    | false => exact wp_cond_false hv (ihy (fun c' hc => hL c' (by simp [loops, hc])) (fun b hb => hC b (by simp [seconds, hb])) h hX hB hW hr hs1 hG)
  | block id x ih =>
    intro st K hL hC h X I μ a w Q hX hB hW hr hs hG
    simp only [exec] at h
    refine wp_block (ih (fun c' hc => hL c' (by simp [loops, hc])) (fun b hb => hC b (by simp [seconds, hb])) h hX hB hW hr hs ?_)
    intro e st' hK
    cases e with
    | exit j =>
      simp only [nbeq] at hK
      by_cases hj : j = id
      · simp only [hj, decide_true, cond_true] at hK
        subst hj
        have := hG _ _ hK
        intro J ν a' w' m1 m2 m3 m4
        simp only [Exit.inBlock, if_true]
        exact this J ν a' w' m1 m2 m3 m4
      · simp only [hj, decide_false, cond_false] at hK
        have := hG _ _ hK
        intro J ν a' w' m1 m2 m3 m4
        simp only [Exit.inBlock, hj, if_false]
        exact this J ν a' w' m1 m2 m3 m4
    | _ => exact hG _ _ hK
  | loop x ih =>
    intro st K hL hC h X I μ a w Q hX hB hW hr hs hG
    simp only [exec] at h
    split at h
    · rename_i L hLL
      exact hL x (by simp [loops]) L hLL st K r h hX hB hW hr hs hG
    · cases h
  | exit id =>
    intro st K _ _ h X I μ a w Q hX hB hW hr hs hG
    exact wp_exit (hG _ _ h I μ a w (NewI.refl X I) hr (Keep.refl μ) hs)
  | scope x ih =>
    intro st K hL hC h X I μ a w Q hX hB hW hr hs hG
    simp only [exec] at h
    refine wp_scope_straight (ih (fun c' hc => hL c' (by simpa [loops] using hc)) (fun b hb => hC b (by simpa [seconds] using hb)) h hX hB hW hr hs ?_)
    intro e st' hK
    cases e with
    | goto l => cases hK
    | _ => exact hG _ _ hK
  | label l =>
    intro st K _ _ h X I μ a w Q hX hB hW hr hs hG
    exact wp_label (hG _ _ h I μ a w (NewI.refl X I) hr (Keep.refl μ) hs)
  | ret =>
    intro st K _ _ h X I μ a w Q hX hB hW hr hs hG
    exact wp_ret (hG _ _ h I μ a w (NewI.refl X I) hr (Keep.refl μ) hs)
  | _ =>
    intro st K _ _ h
    simp [exec] at h

/-- A loop, by its rounds. -/
theorem loop_ok (hE : EnvOk P E tB) {n : Nat} {c : Code} {X : Nat → Wrap R} {ρ : Nat → FuncId → Option (Callee R)} {Λ : Nat → Nat → Option (Wrap R)} (h0 : ∀ st K, X 0 st K = none)
    (hs : ∀ k st K r, X (k + 1) st K = some r → ∃ (st0 : St) (M : Exit → St → St), Weak E st st0 ∧ (∀ e st', Weak E st' (M e st')) ∧ exec E n (ρ k) (Λ k) c st0 (fun e st' => match e with | .normal => X k st' K | e => K e (M e st')) = some r) :
    ∀ k, (∀ j, j < k → RhoOk P E tB W0 (ρ j) ∧ (∀ c', c' ∈ loops c → ∀ L, Λ j (2 * fr c') = some L → LoopOk P E tB W0 n c' L) ∧ (∀ b, b ∈ seconds c → ∀ J, Λ j (2 * fr b + 1) = some J → CutOk E n (ρ j) (Λ j) b J)) → LoopOk P E tB W0 n c (X k) := by
  have rounds : ∀ k, (∀ j, j < k → RhoOk P E tB W0 (ρ j) ∧ (∀ c', c' ∈ loops c → ∀ L, Λ j (2 * fr c') = some L → LoopOk P E tB W0 n c' L) ∧ (∀ b, b ∈ seconds c → ∀ J, Λ j (2 * fr b + 1) = some J → CutOk E n (ρ j) (Λ j) b J)) →
      ∀ st K r, X k st K = some r → ∀ {Y : Cx} {I : Mem} {μ : Locs} {a : Act} {w : World} {Q : Exit → Act → World → Prop}, Y.E = E → Y.tB = tB → Y.W0 = W0 → RowsOk μ → Sim Y n I μ st a w → Good E tB W0 Y n I μ K r Q → Code.rounds P c Q k a w := by
    intro k
    induction k with
    | zero => intro _ st K r h; rw [h0] at h; cases h
    | succ k ih =>
      intro hk st K r h Y I μ a w Q hX hB hW hr hsim hG
      obtain ⟨st0, M, h1, hM, h2⟩ := hs k st K r h
      obtain ⟨k1, k2, k3⟩ := hk k (by omega)
      rw [rounds_succ]
      obtain ⟨J0, ν0, q1, ⟨qr, qk⟩, q2⟩ := h1 hX hr hsim
      refine exec_sound hE k1 c k2 k3 h2 hX hB hW qr q2 ?_
      replace hG := hG.later q1 qk
      intro e st' hK
      cases e with
      | normal =>
        intro J ν a' w' m1 m2 m3 m4
        exact ih (fun j hj => hk j (by omega)) st' K r hK hX hB hW m2 m4 (hG.later m1 m3)
      | _ =>
        intro J ν a' w' m1 m2 m3 m4
        obtain ⟨L, κ, q3, ⟨q5, q6⟩, q4⟩ := hM _ st' hX m2 m4
        exact hG _ _ hK L κ a' w' (m1.trans q3) q5 (m3.trans q6) q4
  intro k hk st K r h Y I μ a w Q hX hB hW hr hsim hG
  exact wp_loop_rounds k (rounds k hk st K r h hX hB hW hr hsim hG)
end
end Go.Dip
end
