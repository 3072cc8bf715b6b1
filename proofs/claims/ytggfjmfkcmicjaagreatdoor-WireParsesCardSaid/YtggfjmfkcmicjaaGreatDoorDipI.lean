/- Joined by program out of: CoreRow, Start. -/
import Derived.Test.YtggfjmfkcmicjaaGreatDoorDipD
import Derived.OpenShut
import Derived.ChangeSlices
import Derived.Test.YtggfjmfkcmicjaaGreatDoorDipH
import Derived.Test.YtggfjmfkcmicjaaGreatDoorRows
import Derived.Deep.DeepHandedRow
import Derived.Deep.DeepWitnessRowRef
import Derived.Lib.LaidIn
import Derived.Lib.LaidU8T
import Derived.Lib.LaidTab
import Derived.Stop.LaidErr
import Derived.PinnedBridge
import Derived.Carry
import Derived.ProofKit
import Derived.SizedLaws
set_option linter.all false
/- What a call is handed: its arguments as they read, told as plain trees. -/
section
set_option linter.unusedVariables false
set_option linter.unusedSimpArgs false
namespace Go.Dip
def cellsIn (w : World) : Mem := fun b o => match w.heap[b]? with
  | some (.cells arr _ _) => arr[o]?
  | _ => none
def whole (E : Env) (t : TypeId) (qs : List PV) : PV := bif isStruct (E.ty t) then .agg qs else qs.getD 0 .any
def part (E : Env) (qs : List PV) (off : Nat) (t : TypeId) : PV := whole E t ((qs.drop off).take (E.sz t))
inductive IsT (E : Env) : TypeId → PV → Prop
  | int {t k n} : E.ty t = .int k → k.min ≤ n → n ≤ k.max → IsT E t (.int k n)
  | bool {t b} : E.ty t = .bool → IsT E t (.bool b)
  | str {t s} : E.ty t = .str → s.length ≤ 140737488351232 → IsT E t (.str s)
  | sl {t e es} : E.ty t = .slice e → es.length ≤ 140737488351232 → (∀ x, x ∈ es → IsT E e x) → IsT E t (.sl (E.sz e) es)
  | agg {t fs qs} : E.ty t = .struct fs → qs.length = E.sz t → (∀ f, f ∈ fs → IsT E f.2 (part E qs f.1 f.2)) → IsT E t (.agg qs)
def tiles (E : Env) : Nat → List (Nat × TypeId) → Nat → Bool
  | off, [], n => Nat.beq off n
  | off, f :: fs, n => Nat.beq f.1 off && tiles E (off + E.sz f.2) fs n
def closedB (E : Env) (gs : List Nat) : Bool := gs.all fun t => match E.ty t with
  | .int _ => true
  | .bool => true
  | .str => true
  | .slice e => isIn gs e
  | .struct fs => tiles E 0 fs (E.sz t) && fs.all fun f => isIn gs f.2
  | _ => false
section
variable {P : Program} {E : Env} {tB : TypeId}
theorem isT_one {t : TypeId} {x : PV} (h : IsT E t x) (hs : isStruct (E.ty t) = false) : x.isOne = true := by
  cases h with
  | agg h1 _ _ => rw [h1] at hs; cases hs
  | _ => rfl
theorem cell_in {w : World} {b o : Nat} {v : Value} (h : w.cell? ⟨b, o, none⟩ = some v) : cellsIn w b o = some v := by
  unfold World.cell? at h
  unfold cellsIn
  cases hh : w.heap[b]? with
  | none => simp [hh] at h
  | some ob =>
    simp only [hh] at h ⊢
    cases ob <;> first | (simp at h; done) | simpa using h
theorem spot_none {w : World} {a : Addr} {v : Value} (h : w.cell? a = some v) : a.spot = none := by
  unfold World.cell? at h
  split at h
  · cases hs : a.spot with
    | none => rfl
    | some s => simp [hs] at h
  · cases h
theorem mapM_len {α β : Type} {f : α → Option β} : ∀ {l : List α} {r : List β}, l.mapM f = some r → r.length = l.length
  | [], r, h => by simp at h; subst h; rfl
  | x :: l, r, h => by
    simp only [List.mapM_cons, Option.bind_eq_bind, Option.bind_eq_some_iff, Option.pure_def, Option.some.injEq] at h
    obtain ⟨y, _, ys, h1, rfl⟩ := h
    simp [mapM_len h1]
theorem cells_at {w : World} {a : Addr} {n : Nat} {cs : List Value} (h : w.cells? 0 a n = some cs) : cs.length = n ∧ ∀ j, j < n → w.cell? (a.add j) = some (cs.getD j undef) := by
  unfold World.cells? at h
  simp only [Nat.zero_le, if_true] at h
  have hl : cs.length = n := by simpa using mapM_len h
  refine ⟨hl, fun j hj => ?_⟩
  obtain ⟨b, h1, h2⟩ := Lib.mapM_at h j j (by simp [hj])
  rw [h2, List.getD_eq_getElem?_getD, h1]
  rfl
theorem getD_append_lt {α : Type} {l m : List α} {j : Nat} {d : α} (h : j < l.length) : (l ++ m).getD j d = l.getD j d := by
  simp only [List.getD_eq_getElem?_getD, List.getElem?_append_left h]
theorem getD_append_ge {α : Type} {l m : List α} {j : Nat} {d : α} (h : l.length ≤ j) : (l ++ m).getD j d = m.getD (j - l.length) d := by
  simp only [List.getD_eq_getElem?_getD]
  rw [List.getElem?_append_right h]
theorem getD_drop_take {α : Type} {l : List α} {o n j : Nat} {d : α} (h : j < n) : ((l.drop o).take n).getD j d = l.getD (o + j) d := by
  simp only [List.getD_eq_getElem?_getD, List.getElem?_take, h, if_true, List.getElem?_drop]
theorem tiles_ge {f : Nat × TypeId} : ∀ {fs : List (Nat × TypeId)} {off n : Nat}, tiles E off fs n = true → f ∈ fs → off ≤ f.1
  | g :: fs, off, n, h, hf => by
    simp only [tiles, Bool.and_eq_true, nbeq, decide_eq_true_eq] at h
    rcases List.mem_cons.1 hf with rfl | hf
    · omega
    · have := tiles_ge h.2 hf
      omega
theorem tiles_le {fs : List (Nat × TypeId)} : ∀ {off n : Nat}, tiles E off fs n = true → off ≤ n := by
  induction fs with
  | nil => intro off n h; simp only [tiles, nbeq, decide_eq_true_eq] at h; omega
  | cons f fs ih =>
    intro off n h
    simp only [tiles, Bool.and_eq_true] at h
    have := ih h.2
    omega
theorem fields_rep {I : Mem} {cs : List Value} : ∀ {fs : List (Nat × TypeId)} {off n : Nat}, tiles E off fs n = true → cs.length = n →
    (∀ f, f ∈ fs → ∃ qs : List PV, qs.length = E.sz f.2 ∧ (∀ j, j < E.sz f.2 → RepP I (qs.getD j .any) (((cs.drop f.1).take (E.sz f.2)).getD j undef) ∧ (((cs.drop f.1).take (E.sz f.2)).getD j undef).oneCell' = true) ∧ IsT E f.2 (whole E f.2 qs)) →
    ∃ qs : List PV, qs.length = n - off ∧ (∀ j, j < n - off → RepP I (qs.getD j .any) (cs.getD (off + j) undef) ∧ (cs.getD (off + j) undef).oneCell' = true) ∧ ∀ f, f ∈ fs → IsT E f.2 (part E qs (f.1 - off) f.2)
  | [], off, n, ht, hn, _ => by
    simp only [tiles, nbeq, decide_eq_true_eq] at ht
    exact ⟨[], by simp; omega, fun j hj => by omega, fun f hf => by cases hf⟩
  | f :: fs, off, n, ht, hn, h => by
    simp only [tiles, Bool.and_eq_true, nbeq, decide_eq_true_eq] at ht
    obtain ⟨ht1, ht2⟩ := ht
    have hle := tiles_le ht2
    obtain ⟨qf, a1, a2, a3⟩ := h f (by simp)
    obtain ⟨qs, b1, b2, b3⟩ := fields_rep (cs := cs) ht2 hn fun g hg => h g (by simp [hg])
    refine ⟨qf ++ qs, by simp; omega, fun j hj => ?_, fun g hg => ?_⟩
    · by_cases hlt : j < E.sz f.2
      · rw [getD_append_lt (by omega)]
        have := a2 j hlt
        rw [getD_drop_take hlt, ht1] at this
        exact this
      · rw [getD_append_ge (by omega), a1]
        have := b2 (j - E.sz f.2) (by omega)
        rw [show off + E.sz f.2 + (j - E.sz f.2) = off + j by omega] at this
        exact this
    · rcases List.mem_cons.1 hg with rfl | hg
      · unfold part
        rw [ht1, Nat.sub_self, List.drop_zero, List.take_left' a1]
        exact a3
      · have hge := tiles_ge ht2 hg
        have := b3 g hg
        unfold part at this ⊢
        have hdrop : (qf ++ qs).drop (g.1 - off) = qs.drop (g.1 - (off + E.sz f.2)) := by
          rw [List.drop_append, List.drop_eq_nil_of_le (by omega : qf.length ≤ g.1 - off), List.nil_append, a1]
          congr 1
          omega
        rw [hdrop]
        exact this
def bytesB (P : Program) (E : Env) (gs : List Nat) : Bool := gs.all fun t => match E.ty t with
  | .slice e => Nat.blt 0 (P.bytesOf e)
  | _ => true
def light {H : Type} (P : Program) (t : TypeId) (d : DataW H) : Prop := ∀ n, n ∈ d.weights P t → n ≤ 140737488351232
theorem each_light {H : Type} : ∀ {ts : List TypeId} {ds : List (DataW H)}, (∀ n, n ∈ DataW.weightsEach P ts ds → n ≤ 140737488351232) → ∀ (k : Nat) t d, ts[k]? = some t → ds[k]? = some d → light P t d
  | t :: ts, d :: ds, h, 0, t', d', h1, h2 => by
    simp only [List.getElem?_cons_zero, Option.some.injEq] at h1 h2
    subst h1 h2
    exact fun n hn => h n (by simp [DataW.weightsEach, hn])
  | t :: ts, d :: ds, h, k + 1, t', d', h1, h2 => each_light (ts := ts) (ds := ds) (fun n hn => h n (by simp only [DataW.weightsEach, List.mem_append]; exact .inr hn)) k t' d' (by simpa using h1) (by simpa using h2)
  | [], _, _, k, t', d', h1, _ => by simp at h1
  | _ :: _, [], _, k, t', d', _, h2 => by simp at h2
theorem all_light {H : Type} {e : TypeId} : ∀ {ds : List (DataW H)}, (∀ n, n ∈ DataW.weightsAll P e ds → n ≤ 140737488351232) → ∀ d, d ∈ ds → light P e d
  | d :: ds, h, d', hd => by
    rcases List.mem_cons.1 hd with rfl | hd
    · exact fun n hn => h n (by simp [DataW.weightsAll, hn])
    · exact all_light (fun n hn => h n (by simp [DataW.weightsAll, hn])) d' hd
theorem trod_rep (hE : EnvOk P E tB) {gs : List Nat} (hg : closedB E gs = true) (hby : bytesB P E gs = true) {H : Type} {enc : TypeId × Value → H} {w : World} {held : Bool} : ∀ (fuel : Nat) (t : TypeId) (cs : List Value) (d : DataW H) (ps : List MemPlace),
    DataW.trod enc P w 0 (fun _ => true) held fuel t cs = some (d, ps) → t ∈ gs → light P t d →
    ∃ qs : List PV, qs.length = E.sz t ∧ cs.length = E.sz t ∧ (∀ j, j < E.sz t → RepP (cellsIn w) (qs.getD j .any) (cs.getD j undef) ∧ (cs.getD j undef).oneCell' = true) ∧ IsT E t (whole E t qs) := by
  intro fuel
  induction fuel with
  | zero => intro t cs d ps h; simp [DataW.trod] at h
  | succ fuel ih =>
    intro t cs d ps h ht hlt
    have hc := (List.all_eq_true.1 hg) t ht
    have one : ∀ (v : Value) (x : PV), cs = [v] → isScalar (E.ty t) = true → RepP (cellsIn w) x v → v.oneCell' = true → IsT E t x →
        ∃ qs : List PV, qs.length = E.sz t ∧ cs.length = E.sz t ∧ (∀ j, j < E.sz t → RepP (cellsIn w) (qs.getD j .any) (cs.getD j undef) ∧ (cs.getD j undef).oneCell' = true) ∧ IsT E t (whole E t qs) := by
      rintro v x rfl hsc h1 h2 h3
      obtain ⟨_, _, _, _, _, _, hsz⟩ := hE.scalar t hsc
      have hns : isStruct (E.ty t) = false := by cases hk : E.ty t <;> rw [hk] at hsc <;> first | rfl | cases hsc
      refine ⟨[x], by simp [hsz], by simp [hsz], fun j hj => ?_, by simpa [whole, hns] using h3⟩
      have : j = 0 := by omega
      subst this
      exact ⟨h1, h2⟩
    cases hk : E.ty t with
    | int k =>
      have hu := hE.int t k hk
      rcases cs with _ | ⟨c, _ | ⟨c2, cs⟩⟩
      · simp [DataW.trod, hu] at h
      · cases c <;> try (simp [DataW.trod, hu] at h; done)
        rename_i k' n
        simp only [DataW.trod, hu] at h
        split at h
        · rename_i hcond
          obtain ⟨rfl, hw⟩ := hcond
          simp only [Lit.wf, Bool.and_eq_true, decide_eq_true_eq] at hw
          exact one _ (.int _ _) rfl (by rw [hk]; rfl) (.int _ _) rfl (.int hk hw.1 hw.2)
        · cases h
      · simp [DataW.trod, hu] at h
    | bool =>
      have hu := hE.bool t hk
      rcases cs with _ | ⟨c, _ | ⟨c2, cs⟩⟩
      · simp [DataW.trod, hu] at h
      · cases c <;> try (simp [DataW.trod, hu] at h; done)
        exact one _ (.bool _) rfl (by rw [hk]; rfl) (.bool _) rfl (.bool hk)
      · simp [DataW.trod, hu] at h
    | str =>
      have hu := hE.str t hk
      rcases cs with _ | ⟨c, _ | ⟨c2, cs⟩⟩
      · simp [DataW.trod, hu] at h
      · cases c <;> try (simp [DataW.trod, hu] at h; done)
        rename_i s
        simp only [DataW.trod, hu] at h
        split at h
        · rename_i hl
          refine one _ (.str s.data.toList) rfl (by rw [hk]; rfl) (.str _) rfl (.str hk ?_)
          injection h with h
          injection h with h _
          subst h
          exact hlt _ (by simp [DataW.weights])
        · cases h
      · simp [DataW.trod, hu] at h
    | slice e =>
      obtain ⟨hu, i, z, hi, hsz, _, _, hpos, _⟩ := hE.slice t e hk
      have hcell : P.cellsOf e = E.sz e := by simp [Program.cellsOf, hi, hsz]
      rw [hk] at hc
      have he : e ∈ gs := isIn_iff.1 hc
      have hsc : isScalar (E.ty t) = true := by rw [hk]; rfl
      rcases cs with _ | ⟨c, _ | ⟨c2, cs⟩⟩
      · simp [DataW.trod, hu] at h
      rotate_left
      · simp [DataW.trod, hu] at h
      cases c <;> try (simp [DataW.trod, hu] at h; done)
      rename_i a len cap
      cases a with
      | none =>
        rcases len with _ | len <;> rcases cap with _ | cap <;> try (simp [DataW.trod, hu] at h; done)
        exact one _ (.sl (E.sz e) []) rfl hsc (.nilsl _ none) rfl (.sl hk (by simp) (by simp))
      | some a =>
        simp only [DataW.trod, hu] at h
        rw [hcell] at h
        split at h
        · rename_i hcond
          obtain ⟨_, hlc, hcm⟩ := hcond
          obtain ⟨elems, hel, h⟩ := Option.bind_eq_some_iff.1 h
          simp only [if_true] at h
          obtain ⟨rest, hre, hd⟩ := Option.map_eq_some_iff.1 h
          injection hd with hd _
          subst hd
          have hbe : 0 < P.bytesOf e := by
            have := (List.all_eq_true.1 hby) t ht
            rw [hk] at this
            simpa using this
          have hcount : len ≤ 140737488351232 := by
            have h1 := hlt ((elems.map (·.1)).length * P.bytesOf e + (rest.map (·.1)).length * P.bytesOf e) (by
              simp only [DataW.weights, hu, List.mem_cons]
              left
              rw [Nat.add_mul])
            have h2 : elems.length = len := by simpa using mapM_len hel
            have h3 : len * 1 ≤ len * P.bytesOf e := Nat.mul_le_mul_left len hbe
            simp only [List.length_map, h2] at h1
            omega
          have hlw : ∀ b, b ∈ elems → light P e b.1 := fun b hb => all_light (P := P) (e := e) (ds := elems.map (·.1)) (fun n hn => hlt n (by
            simp only [DataW.weights, hu, List.mem_cons, List.mem_append]
            exact .inr (.inl hn))) b.1 (List.mem_map_of_mem hb)
          have hat : ∀ i, i < len → ∃ cs', w.cells? 0 (a.add (i * E.sz e)) (E.sz e) = some cs' ∧ ∃ qs : List PV, qs.length = E.sz e ∧ (∀ j, j < E.sz e → RepP (cellsIn w) (qs.getD j .any) (cs'.getD j undef) ∧ (cs'.getD j undef).oneCell' = true) ∧ IsT E e (whole E e qs) := by
            intro i hi'
            obtain ⟨b, hb0, h2⟩ := Lib.mapM_at hel i i (by simp [hi'])
            obtain ⟨cs', h3, h4⟩ := Option.bind_eq_some_iff.1 h2
            obtain ⟨qs, k1, _, k3, k4⟩ := ih e cs' b.1 b.2 h4 he (hlw b (List.mem_of_getElem? hb0))
            exact ⟨cs', h3, qs, k1, k3, k4⟩
          by_cases hz : cap = 0
          · subst hz
            have : len = 0 := by omega
            subst this
            exact one _ (.sl (E.sz e) []) rfl hsc (.nilsl _ (some a)) rfl (.sl hk (by simp) (by simp))
          · have hspot : a.spot = none := by
              by_cases hl : 0 < len
              · obtain ⟨cs', h1, _⟩ := hat 0 hl
                have h2 := (cells_at h1).2 0 hpos
                have e0 : (a.add (0 * E.sz e)).add 0 = a := by simp [Addr.add]
                rw [e0] at h2
                exact spot_none h2
              · have hl0 : len = 0 := by omega
                subst hl0
                obtain ⟨b, _, h2⟩ := Lib.mapM_at hre 0 0 (List.getElem?_range (by omega))
                obtain ⟨cs', h3, _⟩ := Option.bind_eq_some_iff.1 h2
                have h4 := (cells_at h3).2 0 hpos
                have e0 : (a.add ((0 + 0) * E.sz e)).add 0 = a := by simp [Addr.add]
                rw [e0] at h4
                exact spot_none h4
            obtain ⟨b, o, sp⟩ := a
            simp only at hspot
            subst hspot
            let g : Nat → List PV := fun i => if hi : i < len then Classical.choose (Classical.choose_spec (hat i hi)).2 else []
            let v : Nat → List Value := fun i => if hi : i < len then Classical.choose (hat i hi) else []
            have hv : ∀ i, i < len → w.cells? 0 ((⟨b, o, none⟩ : Addr).add (i * E.sz e)) (E.sz e) = some (v i) ∧ (g i).length = E.sz e ∧ (∀ j, j < E.sz e → RepP (cellsIn w) ((g i).getD j .any) ((v i).getD j undef) ∧ ((v i).getD j undef).oneCell' = true) ∧ IsT E e (whole E e (g i)) := by
              intro i hi'
              have h1 := (Classical.choose_spec (hat i hi')).1
              have h2 := Classical.choose_spec (Classical.choose_spec (hat i hi')).2
              simp only [v, g, dif_pos hi']
              exact ⟨h1, h2⟩
            have hes : ∀ i, i < len → ((List.range len).map fun i => whole E e (g i)).getD i .any = whole E e (g i) := by
              intro i hi'
              simp [List.getD_eq_getElem?_getD, List.getElem?_map, List.getElem?_range hi']
            have hcells : ∀ i, i < len → ∀ j, j < E.sz e → pcell (whole E e (g i)) j = (g i).getD j .any := by
              intro i hi' j hj
              obtain ⟨_, h1, _, h3⟩ := hv i hi'
              unfold whole at h3 ⊢
              cases hs : isStruct (E.ty e)
              · rw [hs] at h3
                simp only [cond_false] at h3 ⊢
                have h1' := isT_one h3 hs
                have hsz1 : E.sz e = 1 := by
                  have : isScalar (E.ty e) = true := by
                    have hce := (List.all_eq_true.1 hg) e he
                    cases hke : E.ty e <;> rw [hke] at hce hs <;> first | rfl | (cases hs; done) | (cases hce; done)
                  obtain ⟨_, _, _, _, _, _, hh⟩ := hE.scalar e this
                  exact hh
                have : j = 0 := by omega
                subst this
                unfold pcell
                rw [(PV.one_cells h1').1]
                rfl
              · rfl
            have hcnt : ∀ i, i < len → (whole E e (g i)).cnt = E.sz e := by
              intro i hi'
              obtain ⟨_, h1, _, h3⟩ := hv i hi'
              unfold whole at h3 ⊢
              cases hs : isStruct (E.ty e)
              · rw [hs] at h3
                simp only [cond_false] at h3 ⊢
                have h1' := isT_one h3 hs
                have : isScalar (E.ty e) = true := by
                  have hce := (List.all_eq_true.1 hg) e he
                  cases hke : E.ty e <;> rw [hke] at hce hs <;> first | rfl | (cases hs; done) | (cases hce; done)
                obtain ⟨_, _, _, _, _, _, hh⟩ := hE.scalar e this
                rw [(PV.one_cells h1').2, hh]
              · exact h1
            have hlen : ((List.range len).map fun i => whole E e (g i)).length = len := by simp
            have hrep := RepP.sl (I := cellsIn w) (E.sz e) ((List.range len).map fun i => whole E e (g i)) b o cap (fun i j => (v i).getD j undef) (by rw [hlen]; exact hlc) (fun i hi' => by rw [hlen] at hi'; rw [hes i hi']; exact hcnt i hi')
              ⟨fun i j hi' hj => by
                rw [hlen] at hi'
                have h1 := (cells_at (hv i hi').1).2 j hj
                rw [add_at, add_at] at h1
                rw [← Nat.add_assoc]
                exact cell_in h1, fun i j hi' hj => by rw [hlen] at hi'; exact ((hv i hi').2.2.1 j hj).2⟩
              (fun i j hi' hj => by rw [hlen] at hi'; rw [hes i hi', hcells i hi' j hj]; exact ((hv i hi').2.2.1 j hj).1)
            rw [hlen] at hrep
            refine one _ _ rfl hsc hrep rfl (.sl hk (by rw [hlen]; exact hcount) fun x hx => ?_)
            obtain ⟨i, hi', rfl⟩ := List.mem_map.1 hx
            exact (hv i (by simpa using hi')).2.2.2
        · cases h
    | struct fs =>
      obtain ⟨Fs, i, hu, hfs, hi, hsz⟩ := hE.struct t fs hk
      have hcell : P.cellsOf t = E.sz t := by simp [Program.cellsOf, hi, hsz]
      rw [hk] at hc
      simp only [Bool.and_eq_true, List.all_eq_true] at hc
      obtain ⟨htile, hin⟩ := hc
      rw [DataW.trod.eq_def] at h
      simp only [hu] at h
      rw [hcell] at h
      split at h
      · rename_i hlen
        obtain ⟨xs, hx, hd⟩ := Option.map_eq_some_iff.1 h
        injection hd with hd _
        subst hd
        have hlw := each_light (P := P) (ts := Fs.toList.map (·.type)) (ds := xs.map (·.1)) (fun n hn => hlt n (by simp only [DataW.weights, hu]; exact hn))
        have hf : ∀ f, f ∈ fs → ∃ qs : List PV, qs.length = E.sz f.2 ∧ (∀ j, j < E.sz f.2 → RepP (cellsIn w) (qs.getD j .any) (((cs.drop f.1).take (E.sz f.2)).getD j undef) ∧ (((cs.drop f.1).take (E.sz f.2)).getD j undef).oneCell' = true) ∧ IsT E f.2 (whole E f.2 qs) := by
          intro f hf
          obtain ⟨_, ⟨i2, hi2, hsz2, _⟩, _⟩ := hE.fits t fs hk f hf
          have hc2 : P.cellsOf f.2 = E.sz f.2 := by simp [Program.cellsOf, hi2, hsz2]
          have hf' := hf
          rw [hfs] at hf'
          obtain ⟨F, hF, rfl⟩ := List.mem_map.1 hf'
          obtain ⟨k, hk'⟩ := List.getElem?_of_mem hF
          obtain ⟨b, hb0, h2⟩ := Lib.mapM_at hx k F hk'
          have hc2 : P.cellsOf F.type = E.sz F.type := hc2
          rw [hc2] at h2
          obtain ⟨qs, k1, _, k3, k4⟩ := ih _ _ b.1 b.2 h2 (isIn_iff.1 (hin _ hf)) (hlw k F.type b.1 (by simp [hk']) (by simp [hb0]))
          exact ⟨qs, k1, k3, k4⟩
        obtain ⟨qs, a1, a2, a3⟩ := fields_rep (cs := cs) htile hlen hf
        refine ⟨qs, by simpa using a1, hlen, fun j hj => ?_, ?_⟩
        · have := a2 j (by simpa using hj)
          rw [Nat.zero_add] at this
          exact this
        · have hw : whole E t qs = .agg qs := by simp [whole, hk, isStruct]
          rw [hw]
          exact .agg hk (by simpa using a1) fun f hf => by simpa using a3 f hf
      · cases h
    | _ => rw [hk] at hc; cases hc
theorem arg_rep (hE : EnvOk P E tB) {gs : List Nat} (hg : closedB E gs = true) (hby : bytesB P E gs = true) {H : Type} {enc : TypeId × Value → H} {w : World} {held : Bool} {t : TypeId} {v : Value} {d : DataW H} {ps : List MemPlace} (h : DataW.Trod enc P w 0 (fun _ => true) held t v d ps) (ht : t ∈ gs) (hlt : light P t d)
    (hform : isStruct (E.ty t) = true → ∃ vs, v = .agg vs) (hone : isStruct (E.ty t) = false → v.cells = #[v]) : ∃ x, IsT E t x ∧ RepP (cellsIn w) x v := by
  obtain ⟨fuel, h⟩ := h
  obtain ⟨qs, h1, h2, h3, h4⟩ := trod_rep hE hg hby fuel t _ d ps h ht hlt
  refine ⟨_, h4, ?_⟩
  unfold whole
  cases hs : isStruct (E.ty t)
  · simp only [cond_false]
    have hc := hone hs
    rw [hc] at h2 h3
    have hsz : E.sz t = 1 := by simpa using h2.symm
    exact (h3 0 (by omega)).1
  · obtain ⟨vs, rfl⟩ := hform hs
    simp only [cond_true]
    have e : (Value.agg vs).cells = vs := rfl
    rw [e] at h2 h3
    refine RepP.agg qs vs (by rw [h1, ← h2]; simp) (fun i hi => ?_) (fun i hi => ?_)
    · rw [agetD]; exact (h3 i (by omega)).1
    · rw [agetD]; exact (h3 i (by omega)).2
theorem okWide_form (hE : EnvOk P E tB) {gs : List Nat} (hg : closedB E gs = true) {w : World} {base : Nat} {t : TypeId} {v : Value} (h : Value.okWide P w .any base t v) (ht : t ∈ gs) : (isStruct (E.ty t) = true → ∃ vs, v = .agg vs) ∧ (isStruct (E.ty t) = false → v.cells = #[v]) := by
  have hc := (List.all_eq_true.1 hg) t ht
  cases hk : E.ty t with
  | int k =>
    have hu := hE.int t k hk
    refine ⟨fun e => (by cases e), fun _ => ?_⟩
    simp only [Value.okWide, hu, Cell.okWide, Cell.ok] at h
    cases v <;> first | rfl | cases h
  | bool =>
    have hu := hE.bool t hk
    refine ⟨fun e => (by cases e), fun _ => ?_⟩
    simp only [Value.okWide, hu, Cell.okWide, Cell.ok] at h
    cases v <;> first | rfl | cases h
  | str =>
    have hu := hE.str t hk
    refine ⟨fun e => (by cases e), fun _ => ?_⟩
    simp only [Value.okWide, hu, Cell.okWide, Cell.ok] at h
    cases v <;> first | rfl | cases h
  | slice e =>
    have hu := (hE.slice t e hk).1
    refine ⟨fun e => (by cases e), fun _ => ?_⟩
    simp only [Value.okWide, hu, Cell.okWide, Cell.ok] at h
    cases v <;> first | rfl | cases h
  | struct fs =>
    obtain ⟨Fs, i, hu, _⟩ := hE.struct t fs hk
    refine ⟨fun _ => ?_, fun e => (by cases e)⟩
    simp only [Value.okWide, hu] at h
    obtain ⟨cs, rfl, _⟩ := h
    exact ⟨cs, rfl⟩
  | _ => rw [hk] at hc; cases hc
theorem arg_read (hE : EnvOk P E tB) {gs : List Nat} (hg : closedB E gs = true) (hby : bytesB P E gs = true) {H : Type} {enc : TypeId × Value → H} {w : World} {held : Bool} {base : Nat} {t : TypeId} {v : Value} {d : DataW H} {ps : List MemPlace} (h : DataW.Trod enc P w 0 (fun _ => true) held t v d ps)
    (hv : Value.okWide P w .any base t v) (ht : t ∈ gs) (hlt : light P t d) : ∃ x, IsT E t x ∧ RepP (cellsIn w) x v :=
  arg_rep hE hg hby h ht hlt (okWide_form hE hg hv ht).1 (okWide_form hE hg hv ht).2
theorem lights {H : Type} {ts us : List TypeId} {ds gs : List (DataW H)} (h : (DataW.weightsEach P (ts ++ us) (ds ++ gs)).all (· ≤ reachBytes) = true) (k : Nat) (t : TypeId) (d : DataW H) (ht : ts[k]? = some t) (hd : ds[k]? = some d) : light P t d := by
  refine each_light (P := P) (ts := ts ++ us) (ds := ds ++ gs) (fun n hn => ?_) k t d ?_ ?_
  · have := (List.all_eq_true.1 h) n hn
    simp only [decide_eq_true_eq] at this
    exact this
  · rw [List.getElem?_append_left (List.getElem?_eq_some_iff.1 ht).1]; exact ht
  · rw [List.getElem?_append_left (List.getElem?_eq_some_iff.1 hd).1]; exact hd
theorem law_call {f : FuncId} {G : PureG} {W : World} (hG : PureOk P E W f G) {vs : List PV} {args : Array Value} (hl : args.size = vs.length) (ha : ∀ i, i < vs.length → RepP (cellsIn W) (vs.getD i .any) (args.getD i undef)) {b : Bool} (h : G vs GV some = some (.pv (.bool b))) :
    Calls P f args W fun e W' => e = .returned (.bool b) ∧ RowKit.Below W.heap.size W W' := by
  refine ((hG.ok vs _ h).2 ⟨E, 0, W.heap.size, fun _ => False, false, 0, W, W⟩ (cellsIn W) W args rfl rfl ?_ (Nat.le_refl _) (Nat.le_refl _) (RowKit.Below.refl _ _) hl ha).mono ?_
  · intro b' o v hv
    unfold cellsIn at hv
    split at hv
    · rename_i arr T fz hh
      exact ⟨arr, T, fz, hh, hv, .inl (Array.getElem?_eq_some_iff.1 hh).1⟩
    · cases hv
  · rintro e W' ⟨x, J, rfl, h1, _, _, _, h2⟩
    have h1 : RepP J (.bool b) x := h1
    cases h1
    exact ⟨rfl, h2⟩
end
end Go.Dip
end
/- What the rows of the wire seat begin with: the tables that the program's beginning lays; the arguments' types. -/
section
set_option linter.unusedVariables false
namespace Go.Proofs.YtggfjmfkcmicjaaGreatDoor
open Go.ChangeShapes Go.WideShapes Go.ChangeAt Go.RowKit Go.Lib Go.Dip Go.Shelf
open Go.Proofs.YtggfjmfkcmicjaaGreatDoor.Rows (wireCutsRow laid_unicode_utf8_first)
theorem own : ownKnob Tryz.prog.godebug = none := by kernel_rfl
theorem laidOut : laidOutB Tryz.prog = true := by kernel_rfl
theorem star : "*" ++ "errors.errorString" = "*errors.errorString" := by decide
theorem row168 (u : TypeId) (h : Tryz.prog.typeName? 3 u = some "*errors.errorString") : u = 168 :=
  typeName_ptr_named (nm := "errors.errorString") (by rw [star]; kernel_rfl) (by kernel_rfl) (by decide) u (by rw [star]; exact h)
noncomputable def laidWorld (os : Os) : World :=
  let N := (World.settled Tryz.prog os).heap.size
  let w0 := World.holding Tryz.prog os ⟨#[.cells #[.string ⟨#[118, 97, 108, 117, 101, 32, 111, 117, 116, 32, 111, 102, 32, 114, 97, 110, 103, 101]⟩] 170, .cells #[.string ⟨#[105, 110, 118, 97, 108, 105, 100, 32, 115, 121, 110, 116, 97, 120]⟩] 170], #[], []⟩
  let put (h : Array Obj) (g : Nat) (cs : Array Value) : Array Obj := h.modify g fun
    | .cells _ t frozen => .cells cs t frozen
    | o => o
  let h0 := put (put w0.heap 4 #[.iface 168 (.pointer (some ⟨N, 0, none⟩))]) 3 #[.iface 168 (.pointer (some ⟨N + 1, 0, none⟩))]
  let h1 := put h0 0 (Lib.firstTab.map fun z => Value.int .u8 z).toArray
  let h2 := put h1 1 ((List.range 16).flatMap fun i => [Value.int .u8 (Lib.accLo i), Value.int .u8 (Lib.accHi i)]).toArray
  let h3 := put h2 5 (Lib.pow10Tab.map fun z => Value.int .u64 z).toArray
  let h4 := put h3 6 ([0, 1, 28, 2, 29, 14, 24, 3, 30, 22, 20, 15, 25, 17, 4, 8, 31, 27, 13, 23, 21, 19, 16, 7, 26, 12, 18, 6, 11, 5, 10, 9].map fun z => Value.int .u8 z).toArray
  let h5 := put h4 7 ([0, 1, 56, 2, 57, 49, 28, 3, 61, 58, 42, 50, 38, 29, 17, 4, 62, 47, 59, 36, 45, 43, 51, 22, 53, 39, 33, 30, 24, 18, 12, 5, 63, 55, 48, 27, 60, 41, 37, 16, 46, 35, 44, 21, 52, 32, 23, 11, 54, 26, 40, 15, 34, 20, 31, 10, 25, 14, 19, 9, 13, 8, 7, 6].map fun z => Value.int .u8 z).toArray
  { w0 with heap := h5 }
noncomputable abbrev N0 : Nat := (World.settled Tryz.prog default).heap.size
theorem laid_met (os : Os) (args : Array Value) : laidMet Tryz.prog wireCutsRow.laid ((laidWorld os).forCall (fun _ _ => 0) ⟨#[], args, []⟩).memory :=
  (LaidIn.of_run (l := wireCutsRow.laid) [6, 7, 5, 1, 4, N0, 3, N0 + 1, 0] 8 (by kernel_rfl) (by kernel_rfl) (by kernel_rfl) (by kernel_rfl)).met
def types : List Nat := [24, 3, 9, 27, 5, 22, 54, 51, 52, 82]
theorem closed : closedB tyE types = true := by kernel_rfl
theorem bytesOk : bytesB Tryz.prog tyE types = true := by kernel_rfl
set_option maxRecDepth 100000 in
theorem world_ok {W : World} (hL : laidMetH Tryz.prog wireCutsRow.laid W) (hs : W.ShapedOpen Tryz.prog) : WOk W := by
  have h : laidMet Tryz.prog wireCutsRow.laid W := hL
  have h2 := h.tail.tail
  have h4 := h2.tail.tail
  refine ⟨?_, ?_, ?_, ?_, ?_⟩
  · exact cell_of_shapedOpen_int (zero := #[.int .i64 0]) (t := 3) hs (of_decide_eq_true (by kernel_rfl)) (by kernel_rfl) rfl (by kernel_rfl) (by kernel_rfl) Tryz.underlying3
  · exact tabIs_of_head (g := 5) (by kernel_rfl) (by kernel_rfl) Tryz.underlying172 Tryz.underlying142 (by kernel_rfl) (by kernel_rfl) h2
  · obtain ⟨a, s, hv, _⟩ := laid_sentinel (g := 3) h4.tail (by kernel_rfl) (by kernel_rfl) Tryz.underlying62 row168 Tryz.underlying168 Tryz.underlying170 rfl rfl Tryz.underlying9 (by kernel_rfl) (by kernel_rfl)
    exact ⟨_, _, by simpa using World.var?_cell (by kernel_rfl) hv 0⟩
  · obtain ⟨a, s, hv, _⟩ := laid_sentinel (g := 4) h4 (by kernel_rfl) (by kernel_rfl) Tryz.underlying62 row168 Tryz.underlying168 Tryz.underlying170 rfl rfl Tryz.underlying9 (by kernel_rfl) (by kernel_rfl)
    exact ⟨_, _, by simpa using World.var?_cell (by kernel_rfl) hv 0⟩
  · have e1 : laid_unicode_utf8_first = firstData := Pinned.utf8First_eq
    have r1 := Lib.laidMet.reads h (List.Mem.tail _ (.tail _ (.tail _ (.tail _ (.tail _ (.tail _ (.head _)))))))
    have r2 := Lib.laidMet.reads h (List.Mem.tail _ (.tail _ (.tail _ (.head _))))
    rw [e1] at r1
    exact utf8Tabs_of_readsT (U8Types.of196 Tryz.lays196) ⟨by kernel_rfl, by kernel_rfl, by kernel_rfl, by kernel_rfl, by kernel_rfl, by kernel_rfl, by kernel_rfl⟩ r1 r2
end Go.Proofs.YtggfjmfkcmicjaaGreatDoor
end
