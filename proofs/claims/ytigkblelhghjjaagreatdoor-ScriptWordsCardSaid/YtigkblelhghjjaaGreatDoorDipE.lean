/- Joined by program out of: CoreLib2, CoreSort, CoreDefer, CoreSync, CoreLib3, CoreFacts. -/
import Derived.Test.YtigkblelhghjjaaGreatDoorDipD
import Derived.Shelf.SlLaysE0
import Derived.Shelf.SlicesE.Clone
import Derived.Shelf.Spec.SlicesGrow
import Derived.Shelf.RegionOpenPlain
import Derived.WalkKit
import Derived.Deep.LoopGhost
import Derived.Lib.Walk
import Derived.Lib.SliceRun
import Derived.Shelf.SlIter.Nil
import Derived.Shelf.SortM.Plain
import Derived.Shelf.SortM.SortNone
import Derived.Sort.KeysCollected
import Derived.Defers
import Derived.Laws.LoneSync
import Derived.Lib.Bytealg
import Derived.Lib.IndexAny
import Derived.Lib.ParseIntB
import Derived.JoinedOf
set_option linter.all false
/- Library functions aa the evaluator's callees, second part. -/
section
set_option linter.unusedVariables false
set_option linter.unusedSimpArgs false
namespace Go.Dip
open Go.RowKit

section
variable {P : Program} {E : Env} {tB : TypeId} {W0 : World}

section
open Go.Proofs Go.Shelf Go.Lib
set_option maxHeartbeats 2000000 in
set_option maxRecDepth 100000 in
/-- slices.Clone of an empty slice that is not nil, wherever it points. -/
theorem clone_empty {ρ : Ren} (L : SlLaysE0.n41 P ρ) (i0 : TypeInfo) (z : Value) (size bytes : Nat) (hi : P.info? (ρ.t 23) = some i0) (hz0 : i0.zero = some z) (hz1 : i0.size = size) (hz2 : i0.bytes = bytes) (hzs : z.cells.size = size) (hsz : 0 < size)
    (z23 : ∀ w, (Go.sizeOf (ρ.t 23)).run P w = .ok size w) (a : Addr) (c : Nat) (w : World) :
    Calls P (ρ.f 41) #[.slice (some a) 0 c] w fun e w' => ∃ v', e = .returned v' ∧ w'.ownsRow w.heap.size (ρ.t 23) size v' 0 [] ∧ Below w.heap.size w w' := by
  have mixed := L.mixed; have t4 := L.t4; have a4 := L.a4; have z4 := L.z4; have v4 := L.v4; have t22 := L.t22; have a22 := L.a22; have z22 := L.z22; have v22 := L.v22
  have q22 : ∀ (w : World) (a : Option Addr) (n c n' c' : Nat), (binOp .eql (ρ.t 22) (.slice a n c) (.slice none n' c')).run P w = .ok (.bool a.isNone) w := fun w a n c n' c' => Lib.run_eql_slice_nil w _ _ a n c n' c' L.t22
  have u22 : ∀ w, Sem.run P (underlying (ρ.t 22)) w = .ok (TypeDesc.slice (ρ.t 23)) w := run_underlying t22
  obtain ⟨_, _, FG⟩ := L.f41
  go_enter FG, SlBodyN.n41_ntmps ρ
  go_wp2_with (at_builtin; refine wpList_append_own _ rfl _ _ (ρ.t 22) rfl w.heap.size (ρ.t 23) i0 z size bytes t22 hi hz0 hz1 hz2 hzs hsz _ _ _ rfl (World.ownsRow_made w #[] 0 (Nat.le_refl _) (Nat.zero_le _) (by simp)) a 0 c [] rfl ?qc1 ?qc2 ?qc3 ?qc4 ?qc5 ?qc6 ?_)
  case qc1 => simp
  case qc2 => intro j u hj; simp at hj
  case qc3 => intro u hu; simp at hu
  case qc4 => simp
  case qc5 => simp
  case qc6 => simp
  intro v' w1 hown hgrow hnil
  go_wp2
  go_ret
  refine ⟨v', rfl, by simpa using hown, ?_⟩
  exact ((Below.refl _ w).alloc (Nat.le_refl _) _).grown hgrow (by simp) (by intro k hk; simp [Value.ownBlock] at hk; omega)
end
theorem ownsRow_le {w : World} {a b e size : Nat} {v : Value} {n : Nat} {xs : List Value} (h : w.ownsRow a e size v n xs) (hab : b ≤ a) : w.ownsRow b e size v n xs := by
  refine ⟨h.1, ?_⟩
  rcases h.2 with k | ⟨g, cap, cur, k1, k2, k3⟩
  · exact .inl k
  · exact .inr ⟨g, cap, cur, k1, Nat.le_trans hab k2, k3⟩
theorem ownsRow_block {w : World} {a e size : Nat} {v : Value} {n : Nat} {xs : List Value} (h : w.ownsRow a e size v n xs) : (∀ b, v.ownBlock = some b → a ≤ b) ∧ ∃ A n cap, v = .slice A n cap := by
  rcases h.2 with ⟨k, _⟩ | ⟨g, cap, cur, k1, k2, _⟩
  · subst k; exact ⟨fun b hb => (by cases hb), _, _, _, rfl⟩
  · subst k1
    refine ⟨fun b hb => ?_, _, _, _, rfl⟩
    simp [Value.ownBlock] at hb
    omega
/-- A call whose result is a row of its own. -/
theorem HeapFn.rowOut {f : FuncId} {args : List GV} {H : List (Nat × Ob)} {e : TypeId} {es : List PV} (he : Nat.beq e E.tb = false) (en : Enters P f)
    (hc : ∀ (X : Cx) (I : Mem) (μ : Locs) (β : Nat → List Nat) (w : World) (aa : Array Value), X.E = E → X.W0 = W0 → ImmOk X I w → X.B ≤ w.heap.size → RowKit.Below W0.heap.size W0 w → HeapB X I μ β w H →
      aa.size = args.length → (∀ i, i < args.length → RepG I μ (args.getD i .any) (aa.getD i undef)) →
      Calls P f aa w fun e' w' => ∃ x xs, e' = .returned x ∧ w'.ownsRow w.heap.size e (E.sz e) x es.length xs ∧ RowRep I (E.sz e) es xs ∧ RowKit.Below w.heap.size w w') :
    HeapFn P E tB W0 f args H (.c (.orow 0)) (newOb 0 (.row e es) (St.strike 0 ⟨[], H⟩)).h := by
  intro X I μ β w aa hX hT hW hS hbb h1 hdf hcx hro him hB hbel hheap hl hargs
  refine Meets.of en ((hc X I μ β w aa hX hW him hB hbel hheap hl hargs).mono ?_)
  rintro e' w' ⟨x, xs, rfl, h4, h5, h6⟩
  subst hX
  have h2 : Sim X 0 I μ ⟨[], H⟩ { tmps := #[], defers := [] } w := by
    refine ⟨rfl, hdf.symm, fun i v hv => (by cases hv), ⟨β, hheap⟩, him, hB, ?_, hcx, ?_⟩
    · rw [h1]; exact ⟨rfl, rfl, rfl, Nat.le_refl _, fun b o h _ _ => h⟩
    · rw [hW]; exact hbel
  have hg := below_grown h6 none
  have h2' := h2.grown hg
  have hst : Sim X 0 I μ (St.strike 0 ⟨[], H⟩) { tmps := #[], defers := [] } w := h2.strike 0 (ν := μ) fun _ _ => rfl
  obtain ⟨γ, hγ⟩ := hst.h
  obtain ⟨k1, A, nn, cap, k2⟩ := ownsRow_block h4
  have hok : okNew X.E (St.strike 0 ⟨[], H⟩).h (.row e es) = true := by simp [okNew, Ob.isBld, Ob.isByte, he]
  have h3 := h2'.newRow 0 (hγ.grown hg (Aside.none ..)) e es x xs (ownsRow_le h4 hB) h5 (fun b hb => hst.fresh hγ (k1 b hb)) hok
  refine ⟨x, I, upd μ 0 (.row x (X.E.sz e)), rfl, ⟨_, upd_same μ 0 _⟩, NewI.refl X I, ⟨hro.upd 0 _ fun v c e' => ?_, Keep.upd μ _ (.inl (by decide))⟩, h3.im, h3.h, ?_⟩
  · injection e' with e' _
    exact ⟨A, nn, cap, e' ▸ k2⟩
  · have := h3.fr
    rw [h1] at this
    exact this

theorem gargs1 {I : Mem} {μ : Locs} {v : GV} {aa : Array Value} (hl : aa.size = [v].length) (h : ∀ i, i < [v].length → RepG I μ ([v].getD i .any) (aa.getD i undef)) : ∃ x, aa = #[x] ∧ RepG I μ v x := by
  obtain ⟨l⟩ := aa
  match l, hl with
  | [x], _ => exact ⟨x, rfl, h 0 (by simp)⟩
theorem gargs2 {I : Mem} {μ : Locs} {v u : GV} {aa : Array Value} (hl : aa.size = [v, u].length) (h : ∀ i, i < [v, u].length → RepG I μ ([v, u].getD i .any) (aa.getD i undef)) : ∃ x y, aa = #[x, y] ∧ RepG I μ v x ∧ RepG I μ u y := by
  obtain ⟨l⟩ := aa
  match l, hl with
  | [x, y], _ => exact ⟨x, y, rfl, h 0 (by simp), h 1 (by simp)⟩
theorem gargs3 {I : Mem} {μ : Locs} {v u t : GV} {aa : Array Value} (hl : aa.size = [v, u, t].length) (h : ∀ i, i < [v, u, t].length → RepG I μ ([v, u, t].getD i .any) (aa.getD i undef)) : ∃ x y z, aa = #[x, y, z] ∧ RepG I μ v x ∧ RepG I μ u y ∧ RepG I μ t z := by
  obtain ⟨l⟩ := aa
  match l, hl with
  | [x, y, z], _ => exact ⟨x, y, z, rfl, h 0 (by simp), h 1 (by simp), h 2 (by simp)⟩

/-! slices.Clone of a slice that is only read; slices.Grow of an empty one. -/
def hpG (c : Bool) (v : GV) (H : List (Nat × Ob)) (R : Type) (K : GV → List (Nat × Ob) → Option R) : Option R := bif c then K v H else none
theorem HeapGOk.of1 {f : FuncId} {F : HeapG} (h : ∀ us H, (∀ R K, F us H R K = none) ∨ ∃ v H', (∀ R K, F us H R K = K v H') ∧ HeapFn P E tB W0 f us H v H') : HeapGOk P E tB W0 f F := by
  refine ⟨fun us H R K => ?_, fun us H v H' hv => ?_⟩
  · rcases h us H with k | ⟨v, H', k, _⟩
    · rw [k, k]; rfl
    · rw [k, k]; rfl
  · rcases h us H with k | ⟨u, G, k, k2⟩
    · rw [k] at hv; cases hv
    · rw [k] at hv
      simp only [Option.some.injEq, Prod.mk.injEq] at hv
      rw [← hv.1, ← hv.2]
      exact k2
def rowNew (e : TypeId) (es : List PV) (H : List (Nat × Ob)) : List (Nat × Ob) := (newOb 0 (.row e es) (St.strike 0 ⟨[], H⟩)).h
def cloneG (E : Env) (e : TypeId) : HeapG := fun us H R K => match us with
  | [.c (.p (.sl c es))] => bif Nat.beq c (E.sz e) && (!Nat.beq e E.tb && (Nat.ble es.length 4294967296 && Nat.ble 1 (E.sz e))) then K (.c (.orow 0)) (rowNew e es H) else none
  | _ => none
theorem readCells {X : Cx} {I : Mem} {w : World} {c n b o : Nat} {f : Nat → Nat → Value} (him : ImmOk X I w) (hf : RowF I c n b o f) : ∃ news : List Value, news.length = n * c ∧ (∀ i j, i < n → j < c → news.getD (i * c + j) undef = f i j) ∧ (∀ j u, news[j]? = some u → w.cell? ⟨b, o + j, none⟩ = some u) ∧ ∀ u ∈ news, u.oneCell' = true := by
  refine ⟨(List.range (n * c)).map fun k => f (k / c) (k % c), by simp, fun i j hi hj => ?_, fun k u hu => ?_, fun u hu => ?_⟩
  · have hk : i * c + j < n * c := by
      have : (i + 1) * c ≤ n * c := Nat.mul_le_mul_right c hi
      rw [Nat.add_mul] at this
      omega
    have hc : 0 < c := by omega
    rw [List.getD_eq_getElem?_getD, List.getElem?_map, List.getElem?_range hk]
    simp only [Option.map_some, Option.getD_some]
    rw [show i * c + j = j + c * i by rw [Nat.mul_comm]; omega, Nat.add_mul_div_left _ _ hc, Nat.div_eq_of_lt hj, Nat.add_mul_mod_self_left, Nat.mod_eq_of_lt hj]
    simp
  · rw [List.getElem?_map] at hu
    obtain ⟨k', hk', rfl⟩ := Option.map_eq_some_iff.1 hu
    have hlt : k < n * c := by
      have := (List.getElem?_eq_some_iff.1 hk').1
      simpa using this
    rw [List.getElem?_range hlt] at hk'
    injection hk' with hk'
    subst hk'
    have hc : 0 < c := by
      rcases Nat.eq_zero_or_pos c with h | h
      · subst h; simp at hlt
      · exact h
    have hi : k / c < n := (Nat.div_lt_iff_lt_mul hc).2 hlt
    have hj : k % c < c := Nat.mod_lt _ hc
    have e : k / c * c + k % c = k := by rw [Nat.mul_comm]; exact Nat.div_add_mod k c
    have h1 := hf.hI _ _ hi hj
    rw [e] at h1
    obtain ⟨arr, T, fz, q1, q2, _⟩ := him.cell h1 (hf.h1 _ _ hi hj)
    simp [World.cell?, q1, q2]
  · obtain ⟨k, hk, rfl⟩ := List.mem_map.1 hu
    have hlt : k < n * c := List.mem_range.1 hk
    have hc : 0 < c := by
      rcases Nat.eq_zero_or_pos c with h | h
      · subst h; simp at hlt
      · exact h
    exact hf.h1 _ _ ((Nat.div_lt_iff_lt_mul hc).2 hlt) (Nat.mod_lt _ hc)
theorem rowRep_of {I : Mem} {c : Nat} {es : List PV} {f : Nat → Nat → Value} {b o : Nat} {news : List Value} (hc : ∀ i, i < es.length → (es.getD i .any).cnt = c) (hI : RowF I c es.length b o f) (hf : ∀ i j, i < es.length → j < c → RepP I (pcell (es.getD i .any) j) (f i j))
    (hn : ∀ i j, i < es.length → j < c → news.getD (i * c + j) undef = f i j) : RowRep I c es news := by
  intro i hi
  refine ⟨hc i hi, fun j hj => ?_⟩
  rw [hn i j hi hj]
  exact ⟨hf i j hi hj, hI.h1 i j hi hj⟩
theorem lib_clone {f : FuncId} {e : TypeId} (en : Enters P f) {bytes : Nat} (hby : bytes ≤ 256)
    (hc : ∀ (b off n c : Nat) (news : List Value) (w : World), 0 < E.sz e → news.length = n * E.sz e → n ≤ maxLen → n * bytes ≤ 140737488355328 → (∀ j u, news[j]? = some u → w.cell? ⟨b, off + j, none⟩ = some u) → (∀ u ∈ news, u.oneCell' = true) →
      Calls P f #[.slice (some ⟨b, off, none⟩) n c] w fun e' w' => ∃ v', e' = .returned v' ∧ w'.ownsRow w.heap.size e (E.sz e) v' n news ∧ v' ≠ .slice none 0 0 ∧ Below w.heap.size w w')
    (hz : ∀ (a : Addr) (c : Nat) (w : World), 0 < E.sz e → Calls P f #[.slice (some a) 0 c] w fun e' w' => ∃ v', e' = .returned v' ∧ w'.ownsRow w.heap.size e (E.sz e) v' 0 [] ∧ Below w.heap.size w w')
    (hn : ∀ (n c : Nat) (w : World), Calls P f #[.slice none n c] w fun e w' => e = .returned (.slice none 0 0) ∧ w' = w) : HeapGOk P E tB W0 f (cloneG E e) := by
  refine HeapGOk.of1 fun us H => ?_
  unfold cloneG
  split
  · rename_i c es
    cases hcd : Nat.beq c (E.sz e) && (!Nat.beq e E.tb && (Nat.ble es.length 4294967296 && Nat.ble 1 (E.sz e)))
    · exact .inl fun R K => rfl
    · refine .inr ⟨_, _, fun R K => rfl, ?_⟩
      simp only [Bool.and_eq_true, nbeq, decide_eq_true_eq, Bool.not_eq_true', decide_eq_false_iff_not, Nat.ble_eq] at hcd
      obtain ⟨c1, c2, c3, c4⟩ := hcd
      refine HeapFn.rowOut (by rw [nbeq]; simp [c2]) en fun X I μ β w aa hX hW him hB hbel hheap hl hargs => ?_
      obtain ⟨x, rfl, hx⟩ := gargs1 hl hargs
      have hx : RepP I (.sl c es) x := hx
      subst c1
      cases hx with
      | nilsl _ a =>
        cases a with
        | none =>
          refine (hn 0 0 w).mono ?_
          rintro e' w' ⟨rfl, rfl⟩
          exact ⟨_, [], rfl, World.ownsRow_nil _ _ _ _, fun i hi => by simp at hi, Below.refl _ _⟩
        | some a =>
          refine (hz a 0 w c4).mono ?_
          rintro e' w' ⟨v', rfl, k1, k2⟩
          exact ⟨v', [], rfl, k1, fun i hi => by simp at hi, k2⟩
      | sl _ _ b o cap ff hcap hcc hIr hf =>
        obtain ⟨news, q1, q2, q3, q4⟩ := readCells him hIr
        refine (hc b o es.length cap news w c4 q1 (by unfold maxLen; omega) (by
          have := Nat.mul_le_mul c3 hby
          omega) q3 q4).mono ?_
        rintro e' w' ⟨v', rfl, k1, _, k2⟩
        exact ⟨v', news, rfl, k1, rowRep_of hcc hIr hf q2, k2⟩
  · exact .inl fun R K => rfl
open Go.Proofs Go.Shelf in
theorem clone_ok (hE : EnvOk P E tB) {ρ : Ren} (L : SlLaysE0.n41 P ρ) (ht : E.ty (ρ.t 22) = .slice (ρ.t 23)) (en : Enters P (ρ.f 41)) : HeapGOk P E tB W0 (ρ.f 41) (cloneG E (ρ.t 23)) := by
  obtain ⟨_, i, z, h1, h2, h3, h4, h5, h6, _⟩ := hE.slice _ _ ht
  have hz : ∀ w, (Go.sizeOf (ρ.t 23)).run P w = .ok (E.sz (ρ.t 23)) w := fun w => by simp [Go.sizeOf, typeInfo, h1, h2]
  refine lib_clone en (bytes := i.bytes) h6 (fun b off n c news w q0 q1 q2 q3 q4 q5 => ?_) (fun a c w q0 => ?_) (fun n c w => AnyE.slices_Clone_nil L n c w)
  · exact AnyE.slices_Clone L i z _ _ h1 h3 h2 rfl h4 q0 hz b off n c news w q1 q2 q3 q4 q5
  · exact clone_empty L i z _ _ h1 h3 h2 rfl h4 q0 hz a c w
def growG (E : Env) (e : TypeId) : HeapG := fun us H R K => match us with
  | [.c (.nils c), .c (.p (.int .i64 n))] => bif !Nat.beq e E.tb && (decide (1 ≤ n) && (decide (n ≤ 4294967296) && Nat.ble 1 (E.sz e))) then K (.c (.orow 0)) (rowNew e [] H) else none
  | _ => none
open Go.Proofs Go.Shelf in
theorem grow_ok (hE : EnvOk P E tB) {ρ : Ren} (L : Lays8.n4 P ρ) (ht : E.ty (ρ.t 22) = .slice (ρ.t 25)) (en : Enters P (ρ.f 4)) : HeapGOk P E tB W0 (ρ.f 4) (growG E (ρ.t 25)) := by
  obtain ⟨_, i, z, h1, h2, h3, h4, h5, h6, _⟩ := hE.slice _ _ ht
  refine HeapGOk.of1 fun us H => ?_
  unfold growG
  split
  · rename_i c n
    cases hcd : !Nat.beq (ρ.t 25) E.tb && (decide (1 ≤ n) && (decide (n ≤ 4294967296) && Nat.ble 1 (E.sz (ρ.t 25))))
    · exact .inl fun R K => rfl
    · refine .inr ⟨_, _, fun R K => rfl, ?_⟩
      simp only [Bool.and_eq_true, nbeq, decide_eq_true_eq, Bool.not_eq_true', decide_eq_false_iff_not, Nat.ble_eq] at hcd
      obtain ⟨c2, c3, c4, c5⟩ := hcd
      refine HeapFn.rowOut (by rw [nbeq]; simp [c2]) en fun X I μ β w aa hX hW him hB hbel hheap hl hargs => ?_
      obtain ⟨x, y, rfl, hx, hy⟩ := gargs2 hl hargs
      have hx : x = .slice none 0 0 := hx
      have hy := repInt (I := I) hy
      subst hx hy
      obtain ⟨m, rfl⟩ : ∃ m : Nat, n = (m : Int) := ⟨n.toNat, by omega⟩
      have hb : (0 + m) * i.bytes ≤ 140737488355328 := by
        have : (0 + m) * i.bytes ≤ 4294967296 * 256 := Nat.mul_le_mul (by omega) h6
        omega
      refine (Any8.slices_Grow_grow L i z h1 h3 (by omega) none 0 0 m [] w (Nat.le_refl _) (by omega) hb (by omega) (by simp) (fun _ => rfl) (fun a h => by cases h)).mono ?_
      rintro e' w' ⟨rfl, rfl⟩
      have g1 := grownCap_ge w (0 + m) 0 (ρ.t 25)
      have g2 := grownCap_le_maxLen w (0 + m) 0 (ρ.t 25) (by unfold maxLen; omega)
      generalize grownCap w (0 + m) 0 (ρ.t 25) = G at g1 g2 ⊢
      refine ⟨_, [], rfl, ⟨by simp, .inr ⟨w.heap.size, G, ([].toArray ++ Builtin.zeroCells z.cells (0 + m - 0) ++ Builtin.zeroCells z.cells (G - (0 + m))), rfl, Nat.le_refl _, ?_, Nat.zero_le _, g2, ?_, by simp⟩⟩, fun i hi => by simp at hi, ?_⟩
      · exact heap_alloc_new w.drew _
      · simp only [Array.size_append, size_zeroCells, h4, List.size_toArray, List.length_nil]
        rw [Nat.zero_add, ← Nat.add_mul]
        congr 1
        omega
      · exact ⟨rfl, rfl, rfl, by simp, fun k hk => heap_alloc_old w.drew _ hk⟩
  · exact .inl fun R K => rfl
end
end Go.Dip
end

/- slices.Sorted(maps.Keys(m)) as the evaluator's callee. -/
section
set_option linter.unusedVariables false
set_option linter.unusedSimpArgs false
namespace Go.Dip
open Go.RowKit
open Go.Proofs (encStr)

def leY (x y : Bytes) : Bool := decide (x ≤ y)
def insY (x : Bytes) : List Bytes → List Bytes
  | [] => [x]
  | y :: l => bif leY x y then x :: y :: l else y :: insY x l
def sortY (l : List Bytes) : List Bytes := l.foldr insY []
theorem insY_perm (x : Bytes) : ∀ l, (insY x l).Perm (x :: l)
  | [] => .refl _
  | y :: l => by
    simp only [insY]
    cases leY x y
    · exact ((insY_perm x l).cons y).trans (.swap x y l)
    · exact .refl _
theorem sortY_perm : ∀ l, (sortY l).Perm l
  | [] => .refl _
  | x :: l => (insY_perm x _).trans ((sortY_perm l).cons x)
theorem insY_sorted (x : Bytes) : ∀ l, l.Pairwise (fun a b => leY a b = true) → (insY x l).Pairwise (fun a b => leY a b = true)
  | [], _ => by simp [insY]
  | y :: l, h => by
    have h' := List.pairwise_cons.1 h
    simp only [insY]
    cases hb : leY x y
    · refine List.pairwise_cons.2 ⟨fun z hz => ?_, insY_sorted x l h'.2⟩
      rcases List.mem_cons.1 ((insY_perm x l).mem_iff.1 hz) with rfl | hz
      · simp only [leY, decide_eq_false_iff_not, decide_eq_true_eq] at hb ⊢
        rcases List.le_total y z with k | k
        · exact k
        · exact absurd k hb
      · exact h'.1 z hz
    · refine List.pairwise_cons.2 ⟨fun z hz => ?_, h⟩
      rcases List.mem_cons.1 hz with rfl | hz
      · exact hb
      · have := h'.1 z hz
        simp only [leY, decide_eq_true_eq] at hb this ⊢
        exact List.le_trans hb this
theorem sortY_sorted : ∀ l, (sortY l).Pairwise (fun a b => leY a b = true)
  | [] => .nil
  | x :: l => insY_sorted x _ (sortY_sorted l)
theorem sortY_eq (l : List Bytes) : l.mergeSort (fun x y => decide (x ≤ y)) = sortY l := by
  have tr : ∀ a b c : Bytes, leY a b = true → leY b c = true → leY a c = true := fun a b c h1 h2 => by simp only [leY, decide_eq_true_eq] at *; exact List.le_trans h1 h2
  have to : ∀ a b : Bytes, (leY a b || leY b a) = true := fun a b => by simp only [leY, Bool.or_eq_true, decide_eq_true_eq]; exact List.le_total a b
  refine List.Perm.eq_of_pairwise (le := fun a b => leY a b = true) (fun a b _ _ h1 h2 => ?_) (List.pairwise_mergeSort (le := leY) tr to l) (sortY_sorted l) ((List.mergeSort_perm l leY).trans (sortY_perm l).symm)
  simp only [leY, decide_eq_true_eq] at h1 h2
  exact List.le_antisymm h1 h2

section
variable {P : Program} {E : Env} {tB : TypeId} {W0 : World}
def keysAt (H : List (Nat × Ob)) (q : Nat) : Option (List (PV × PV)) := match look H q with
  | some (.box [.p (.mp kvs)]) => some kvs
  | some (.box [.omap r]) => match look H r with
    | some (.tab kvs none) => some kvs
    | _ => none
  | _ => none
def freeS (x : Bytes) : List Bytes → Bool
  | [] => true
  | y :: l => !decide (x = y) && freeS x l
def distS : List Bytes → Bool
  | [] => true
  | x :: l => freeS x l && distS l
theorem freeS_iff {x : Bytes} : ∀ {l}, freeS x l = true → x ∉ l
  | [], _ => by simp
  | y :: l, h => by
    simp only [freeS, Bool.and_eq_true, Bool.not_eq_true', decide_eq_false_iff_not] at h
    simp only [List.mem_cons, not_or]
    exact ⟨h.1, freeS_iff h.2⟩
theorem distS_iff : ∀ {l}, distS l = true → l.Nodup
  | [], _ => .nil
  | x :: l, h => by
    simp only [distS, Bool.and_eq_true] at h
    exact List.nodup_cons.2 ⟨freeS_iff h.1, distS_iff h.2⟩
def kstr (kvs : List (PV × PV)) : List Bytes := kvs.map fun x => strOf x.1
def okKeys (kvs : List (PV × PV)) : Bool := kvs.all (fun x => isStr x.1 && Nat.ble (strOf x.1).length LIM) && (distS (kstr kvs) && Nat.ble kvs.length 4294967296)
def sortedG (E : Env) (ts : TypeId) (gs : List Nat) : HeapG := fun us H R K => match us with
  | [.c (.fn g [q])] => bif isIn gs g && !Nat.beq ts E.tb then
      match keysAt H q with
      | some kvs => bif okKeys kvs then K (.c (.orow 0)) (rowNew ts ((sortY (kstr kvs)).map .str) H) else none
      | none => none
    else none
  | _ => none
/-- The keys of a map, as its entries have them. -/
theorem map_told {X : Cx} {I : Mem} {μ : Locs} {β : Nat → List Nat} {w : World} {H : List (Nat × Ob)} (him : ImmOk X I w) (hheap : HeapB X I μ β w H) {q : Nat} {kvs : List (PV × PV)} (hk : keysAt H q = some kvs) {y : Value} (hy : PtrAt μ q 0 y) :
    ∃ (b m : Nat) (es : Array MapEntry) (clock : Nat), y = .pointer (some ⟨b, 0, none⟩) ∧ b < w.heap.size ∧ w.cell? ⟨b, 0, none⟩ = some (.map (some m)) ∧ w.heap[m]? = some (.map es clock) ∧
      (∀ (i : Nat) e, es[i]? = some e → e.born < clock) ∧ (∀ (i j : Nat) e e', es[i]? = some e → es[j]? = some e' → e.born = e'.born → i = j) ∧
      ∃ l : List (PV × PV), l.Perm kvs ∧ l.length = es.size ∧ ∀ (i : Nat) e, es[i]? = some e → RepP I (kfst l i) e.key := by
  unfold keysAt at hk
  have hbox : ∀ c, look H q = some (.box [c]) → ∃ b x, y = .pointer (some ⟨b, 0, none⟩) ∧ b < w.heap.size ∧ w.cell? ⟨b, 0, none⟩ = some x ∧ (c.isOwn = false → RepC I μ c x) := by
    intro c hc
    obtain ⟨b, arr, T, is, k0, k1, k2, k3, k4, k5⟩ := hheap.ok q _ hc
    have hyy : y = .pointer (some ⟨b, 0, none⟩) := by
      rcases hy with ⟨b', hb', e⟩ | ⟨b', hb', _⟩
      · rw [k1] at hb'
        injection hb' with hb'
        injection hb' with hb'
        subst hb'
        exact e
      · rw [k1] at hb'
        rcases hb' with ⟨_, hb'⟩ | hb' <;> cases hb'
    obtain ⟨hl, bss, l1, l2, l3⟩ := k5
    obtain ⟨m1, m2⟩ := l3 0 c rfl
    have hs : 0 < arr.size := by
      have : arr.toList.length = 1 := by rw [← hl]; rfl
      simp at this
      omega
    refine ⟨b, arr.getD 0 undef, hyy, (Array.getElem?_eq_some_iff.1 k3).1, ?_, fun hv => ?_⟩
    · simp [World.cell?, k3, Array.getD, hs]
    · have := ((CellO.ref hv).1 m1).1
      rw [← agetD] at this
      exact this
  split at hk
  · rename_i kvs' hq
    injection hk with hk
    subst hk
    obtain ⟨b, x, e1, e2, e3, e4⟩ := hbox _ hq
    have hx : RepP I (.mp kvs') x := e4 rfl
    cases hx with
    | mp _ l m clock ks vs bo hp hI hkk hv =>
      obtain ⟨es, f1, f2, f3⟩ := mapF_es hI him
      have hlt : ∀ (i : Nat) e, es[i]? = some e → i < l.length := fun i e he => by rw [← f2]; exact (Array.getElem?_eq_some_iff.1 he).1
      refine ⟨b, m, es, clock, e1, e2, e3, f1, fun i e he => ?_, fun i j e e' he he' hb => ?_, l, hp, f2.symm, fun i e he => ?_⟩
      · rw [(f3 i e he).2.2]; exact hI.lt i (hlt i e he)
      · rw [(f3 i e he).2.2, (f3 j e' he').2.2] at hb
        exact hI.ne i j (hlt i e he) (hlt j e' he') hb
      · rw [(f3 i e he).1]; exact hkk i (hlt i e he)
  · rename_i r hq
    split at hk
    · rename_i kvs' hr
      injection hk with hk
      subst hk
      obtain ⟨b, x, e1, e2, e3, e4⟩ := hbox _ hq
      obtain ⟨m, g1, rfl⟩ := e4 rfl
      obtain ⟨m', es, is, h0, h1, h2, h3, h4, h5, _⟩ := hheap.ok r _ hr
      rw [h1] at g1
      injection g1 with g1
      injection g1 with g1
      subst g1
      refine ⟨b, m', es, es.size, e1, e2, e3, h3, fun i e he => ?_, fun i j e e' he he' hb => ?_, kvs', .refl _, h5, fun i e he => (h4 i e he).2.2⟩
      · rw [(h4 i e he).1]; exact (Array.getElem?_eq_some_iff.1 he).1
      · rw [(h4 i e he).1, (h4 j e' he').1] at hb
        exact hb
    · cases hk
  · cases hk
open Go.Maps in
theorem lib_sorted {f : FuncId} {ts kt : TypeId} {gs : List Nat} (en : Enters P f) (hsz : E.sz ts = 1) (hkt : P.underlying kt = some .string)
    (hc : ∀ g, g ∈ gs → bnd g = false ∧ ∀ (Bm b nn : Nat) (D0 : DataW Unit) (R : Value → Option (DataW Unit × List MemPlace)) (w : World), Bm < w.heap.size → w.cell? ⟨Bm, 0, none⟩ = some (.map (some b)) → w.ownsMap P kt R b nn D0 → Maps.size D0 ≤ maxLen → Maps.size D0 * 16 ≤ 140737488355328 →
      Calls P f #[.func (.func g) #[] #[.pointer (some ⟨Bm, 0, none⟩)]] w fun e w' => ∃ (v : Value) (ss : List (List UInt8)), e = .returned v ∧ ss.Perm (strKeys D0) ∧ w'.ownsRow w.heap.size ts 1 v ss.length ((ss.mergeSort (fun x y => decide (x ≤ y))).map encStr) ∧ Below w.heap.size w w') :
    HeapGOk P E tB W0 f (sortedG E ts gs) := by
  refine HeapGOk.of1 fun us H => ?_
  unfold sortedG
  split
  · rename_i g q
    cases h1 : isIn gs g && !Nat.beq ts E.tb
    · exact .inl fun R K => rfl
    · simp only [Bool.and_eq_true, Bool.not_eq_true'] at h1
      obtain ⟨c1, c2⟩ := h1
      simp only [cond_true]
      cases hk : keysAt H q with
      | none => exact .inl fun R K => rfl
      | some kvs =>
        simp only
        cases ho : okKeys kvs
        · exact .inl fun R K => rfl
        · refine .inr ⟨_, _, fun R K => rfl, ?_⟩
          simp only [okKeys, Bool.and_eq_true, List.all_eq_true, Nat.ble_eq] at ho
          obtain ⟨o1, o2, o3⟩ := ho
          obtain ⟨b0, hcg⟩ := hc g (isIn_iff.1 c1)
          refine HeapFn.rowOut c2 en fun X I μ β w aa hX hW him hB hbel hheap hl hargs => ?_
          obtain ⟨x, rfl, hx⟩ := gargs1 hl hargs
          obtain ⟨fs, vs, e1, e2, e3, e4⟩ := hx
          have e2 := e2 b0
          subst e2
          have e5 := e4 0 q rfl
          have hvs : vs = #[vs.getD 0 undef] := by
            have : vs.size = 1 := by simpa using e3
            obtain ⟨l⟩ := vs
            match l, this with
            | [z], _ => rfl
          have e5 : PtrAt μ q 0 (vs.getD 0 undef) := by simpa using e5
          generalize vs.getD 0 undef = y at hvs e5
          subst hvs
          obtain ⟨b, m, es, clock, k1, k2, k3, k4, k5, k6, l, k7, k8, k9⟩ := map_told him hheap hk e5
          subst k1
          have hu : unb g = g := by simp [unb, b0]
          rw [hu] at e1
          subst e1
          have hkey : ∀ (i : Nat) e, es[i]? = some e → ∃ s : Bytes, kfst l i = .str s ∧ e.key = .string ⟨s.toArray⟩ ∧ s.length ≤ LIM := by
            intro i e he
            have hi : i < l.length := by rw [k8]; exact (Array.getElem?_eq_some_iff.1 he).1
            have hm : l[i] ∈ kvs := k7.mem_iff.1 (List.getElem_mem hi)
            have := o1 _ hm
            have e6 : kfst l i = l[i].1 := by simp [kfst, hi]
            have e7 : l[i].1 = .str (strOf l[i].1) := by cases hh : l[i].1 <;> rw [hh] at this <;> first | rfl | (simp [isStr] at this)
            refine ⟨strOf l[i].1, e6.trans e7, ?_, this.2⟩
            have := k9 i e he
            rw [e6, e7] at this
            exact repStr this
          have hR : ∀ v : Value, (fun _ => some (.lit (.bool true), []) : Value → Option (DataW Unit × List MemPlace)) v = some (.lit (.bool true), []) := fun v => rfl
          generalize hRR : (fun _ => some (.lit (.bool true), []) : Value → Option (DataW Unit × List MemPlace)) = R at hR
          have hrd : ∀ (i : Nat) e, es[i]? = some e → Go.WideElems.rd P kt R e = some (.string (strOf (kfst l i)), .lit (.bool true)) := by
            intro i e he
            obtain ⟨s, q1, q2, q3⟩ := hkey i e he
            have : keyOf P kt e.key = some (.string s) := by
              have : s.length ≤ maxLen := by
                have : LIM ≤ maxLen := by decide
                omega
              simp [keyOf, hkt, mapKey, q2, bsize, this]
            simp [Go.WideElems.rd, this, hR, q1, strOf]
          have hkeys : (es.toList.map (·.key)) = (kstr l).map fun s => Value.string ⟨s.toArray⟩ := by
            apply List.ext_getElem?
            intro i
            rw [List.getElem?_map, List.getElem?_map]
            unfold kstr
            rw [List.getElem?_map, Array.getElem?_toList]
            by_cases hi : i < es.size
            · obtain ⟨s, q1, q2, _⟩ := hkey i es[i] (Array.getElem?_eq_getElem hi)
              have hi' : i < l.length := by omega
              have e6 : kfst l i = l[i].1 := by simp [kfst, hi']
              rw [Array.getElem?_eq_getElem hi, List.getElem?_eq_getElem hi']
              simp only [Option.map_some, Option.some.injEq]
              rw [q2, ← e6, q1]
              rfl
            · rw [Array.getElem?_eq_none (by omega), List.getElem?_eq_none (by omega)]
              rfl
          have hnd : (kstr l).Nodup := (k7.map _).nodup_iff.2 (distS_iff o2)
          have hst : Go.MapKept.Stamped es clock := by
            refine ⟨fun x hx => ?_, ?_, ?_⟩
            · obtain ⟨i, hi⟩ := List.getElem?_of_mem hx
              rw [Array.getElem?_toList] at hi
              exact k5 i x hi
            · refine List.pairwise_map.2 (List.pairwise_iff_getElem.2 fun i j hi hj hij e => ?_)
              simp only [Array.length_toList] at hi hj
              have := k6 i j es[i] es[j] (Array.getElem?_eq_getElem hi) (Array.getElem?_eq_getElem hj) (by simpa using e)
              omega
            · rw [hkeys]
              exact List.pairwise_map.2 (hnd.imp fun {a b} hne e => hne (by simpa using e))
          have hes : es.size ≤ 4294967296 := by rw [← k8, k7.length_eq]; exact o3
          have hD : ∃ D : DataW Unit, w.ownsMap P kt R m es.size D ∧ (strKeys D).Perm (kstr l) ∧ Maps.size D = es.size := by
            refine ⟨_, ⟨es, clock, k4, ⟨by unfold maxLen; omega, hst, fun x hx => ?_⟩, Nat.le_refl _, rfl⟩, ?_, ?_⟩
            · obtain ⟨i, hi⟩ := List.getElem?_of_mem hx
              rw [Array.getElem?_toList] at hi
              exact ⟨_, hrd i x hi⟩
            · show (((es.toList.map (Go.WideElems.rg P kt R)).foldr DataW.insert []).map fun p => Go.strOf p.1).Perm (kstr l)
              refine ((Go.WideShapes.sorted_perm _).map _).trans ?_
              rw [List.map_map]
              have : es.toList.map ((fun p => Go.strOf p.1) ∘ Go.WideElems.rg P kt R) = kstr l := by
                apply List.ext_getElem?
                intro i
                unfold kstr
                rw [List.getElem?_map, List.getElem?_map, Array.getElem?_toList]
                by_cases hi : i < es.size
                · have hi' : i < l.length := by omega
                  have e6 : kfst l i = l[i].1 := by simp [kfst, hi']
                  rw [Array.getElem?_eq_getElem hi, List.getElem?_eq_getElem hi']
                  simp only [Option.map_some, Function.comp, Go.WideElems.rg, hrd i _ (Array.getElem?_eq_getElem hi), Option.getD_some, Option.some.injEq]
                  rw [e6]
                  rfl
                · rw [Array.getElem?_eq_none (by omega), List.getElem?_eq_none (by omega)]
                  rfl
              rw [this]
            · show ((es.toList.map (Go.WideElems.rg P kt R)).foldr DataW.insert []).length = es.size
              rw [(Go.WideShapes.sorted_perm _).length_eq]
              simp
          obtain ⟨D, d1, d2, d3⟩ := hD
          refine (hcg b m es.size D R w k2 k3 d1 (by rw [d3]; unfold maxLen; omega) (by rw [d3]; omega)).mono ?_
          rintro e' w' ⟨v, ss, rfl, p1, p2, p3⟩
          have p4 : ss.Perm (kstr kvs) := p1.trans (d2.trans (k7.map _))
          have p5 : ss.mergeSort (fun x y => decide (x ≤ y)) = sortY (kstr kvs) := (Go.mergeSort_of_perm p4).trans (sortY_eq _)
          rw [p5] at p2
          have hlen : ss.length = ((sortY (kstr kvs)).map PV.str).length := by rw [List.length_map, (sortY_perm _).length_eq, p4.length_eq]
          rw [hlen] at p2
          refine ⟨v, _, rfl, by rw [hsz]; exact p2, fun i hi => ?_, p3⟩
          have hi' : i < (sortY (kstr kvs)).length := by simpa using hi
          rw [hsz]
          refine ⟨by simp [hi', PV.cnt], fun j hj => ?_⟩
          obtain rfl : j = 0 := by omega
          simp [hi', pcell, encStr]
          exact ⟨.str _, rfl⟩
  · exact .inl fun R K => rfl
end
end Go.Dip
end

/- Functions that defer a call of a closure of their own; calls of closures in other settings. -/
section
set_option linter.unusedVariables false
set_option linter.unusedSimpArgs false
namespace Go.Dip
open Go.RowKit

section
variable {R : Type} {r : R} {P : Program} {E : Env} {tB : TypeId} {W0 : World}

/-- A call of a closure, in whatever setting: from what it is handed, what comes back. -/
theorem callHeapT {d : Nat} {st : St} {args : List GV} {F : List GV → List (Nat × Ob) → (GV → List (Nat × Ob) → Option R) → Option R} {K : GV → St → Option R} {Gd : List GV → List (Nat × Ob) → GV → List (Nat × Ob) → Prop}
    (hF : ∀ args H K r, F args H K = some r → ∃ v H', K v H' = some r ∧ Gd args H v H') (h : callHeap E d st args F K = some r) :
    ∃ v st' ks v0 H, K v st' = some r ∧ Gd (args.map (GV.map (CV.ren (pos ks)))) (handed st.h ks ks) v0 H ∧
      ∀ {T : (Value → World → Prop) → Prop} (hT : ∀ A B : Value → World → Prop, (∀ x w, A x w → B x w) → T A → T B) (df : List Deferred) {X : Cx} {n : Nat} {I : Mem} {μ : Locs} {a : Act} {w : World} {aa : Array Value}, X.E = E → X.tB = tB → X.W0 = W0 → RowsOk μ → Sim X n I μ st a w → aa.size = args.length → (∀ i, i < args.length → RepG I μ (args.getD i .any) (aa.getD i undef)) →
        (∀ (X' : Cx) (μ' : Locs) (β' : Nat → List Nat), X'.E = E → X'.tB = tB → X'.W0 = W0 → X'.S = blocksOf β' (handed st.h ks ks) → X'.hb = hasBld (handed st.h ks ks) → X'.w1 = w → X'.df = df → X'.B ≤ w.heap.size → CxOk X' → RowsOk μ' → ImmOk X' I w → RowKit.Below W0.heap.size W0 w → HeapB X' I μ' β' w (handed st.h ks ks) →
          aa.size = (args.map (GV.map (CV.ren (pos ks)))).length → (∀ i, i < (args.map (GV.map (CV.ren (pos ks)))).length → RepG I μ' ((args.map (GV.map (CV.ren (pos ks)))).getD i .any) (aa.getD i undef)) →
          T fun x w' => ∃ J ν, RepG J ν v0 x ∧ NewI X' I J ∧ (RowsOk ν ∧ Keep μ' ν) ∧ ImmOk X' J w' ∧ HeapOk X' J ν w' H ∧ Frame X' w w') →
        T fun x w' => ∃ J ν, NewI X I J ∧ (RowsOk ν ∧ Keep μ ν) ∧ Sim X n J ν st' a w' ∧ RepG J ν v x := by
  unfold callHeap at h
  simp only at h
  generalize hks : reach st.h 100 (args.flatMap GV.keys) [] = ks at h
  cases hc : Nat.blt ks.length 1000 && (keysIn ks (args.flatMap GV.keys) && ks.all (hasOb st.h ks))
  · rw [hc] at h; exact absurd h (by simp)
  · simp only [hc, cond_true] at h
    simp only [Bool.and_eq_true, Nat.blt_eq] at hc
    obtain ⟨c1, c2, c3⟩ := hc
    obtain ⟨v, H, h, hfn⟩ := hF _ _ _ _ h
    cases hc2 : distinct (H.map fun x => back d ks x.1) && (keysIn (H.map fun x => x.1) v.keys && (H.all (fun x => keysIn (H.map fun x => x.1) x.2.keys) && H.all fun x => oldKey ks x.1 || !isIn ks (back d ks x.1)))
    · rw [hc2] at h; exact absurd h (by simp)
    · simp only [hc2, cond_true] at h
      simp only [Bool.and_eq_true] at hc2
      obtain ⟨d1, d2, d3, d4⟩ := hc2
      generalize hst1 : strikeAll ((H.filter fun x => !oldKey ks x.1).map (fun x => back d ks x.1) ++ ks.filter (rowAt st.h)) { st with h := dropAll ks st.h } = st1 at h
      cases hok : okHeap E ((H.map fun x => (back d ks x.1, x.2.map (CV.ren (back d ks)))) ++ st1.h)
      · rw [hok] at h; exact absurd h (by simp)
      · simp only [hok, cond_true] at h
        refine ⟨_, _, ks, v, H, h, hfn, fun {T} hT df {X n I μ a w aa} hX hB hW hr hs hl ha hcall => ?_⟩
        subst hX hB hW
        refine heapAnyT (d := d) (v := v) (H := H) hT df hr hs c1 ?_ (fun X' μ' β' e1 e2 e3 e4 e5 e6 e7 hB hcx hro' him hbase hheap' hmu => ?_) d1 (keysIn_iff.1 d2) ?_ ?_ _ (fun x hx ho => ?_) (fun q p hp ho hrow hq => ?_) st1 hst1.symm (.inl hok)
        · intro k hk
          have := (List.all_eq_true.1 c3) k hk
          unfold hasOb at this
          split at this
          · rename_i ob hob
            exact ⟨ob, hob, keysIn_iff.1 this⟩
          · cases this
        · refine hcall X' μ' β' e1 e2 e3 e4 e5 e6 e7 hB hcx hro' him (by rw [← e3]; exact hbase) hheap' (by simpa using hl) fun i hi => ?_
          have hi' : i < args.length := by simpa using hi
          have e : (args.map (GV.map (CV.ren (pos ks)))).getD i .any = (args.getD i .any).map (CV.ren (pos ks)) := by
            simp [List.getD_eq_getElem?_getD, hi']
          rw [e]
          refine (ha i hi').ren fun r hr => hmu r (keysIn_iff.1 c2 r ?_)
          rw [List.mem_flatMap]
          refine ⟨_, ?_, hr⟩
          simp [List.getD_eq_getElem?_getD, hi']
        · intro x hx
          exact keysIn_iff.1 ((List.all_eq_true.1 d3) x hx)
        · intro x hx
          have := (List.all_eq_true.1 d4) x hx
          simp only [Bool.or_eq_true, Bool.not_eq_true'] at this
          rcases this with e | e
          · exact .inl e
          · exact .inr fun hm => by rw [isIn_iff.2 hm] at e; cases e
        · rw [List.mem_append]
          left
          refine List.mem_map.2 ⟨x, ?_, rfl⟩
          rw [List.mem_filter]
          exact ⟨hx, by rw [ho]; rfl⟩
        · exfalso
          apply hq
          rw [List.mem_append]
          right
          rw [List.mem_filter]
          refine ⟨?_, hrow⟩
          have hbk : back d ks q = ks.getD (q - 1000) 0 := by simp [back, ho]
          rw [hbk]
          exact oldKey_mem ho

/-- A deferred call that is handed objects. -/
def HeapFnD (P : Program) (E : Env) (tB : TypeId) (W0 : World) (f : FuncId) (args : List GV) (H : List (Nat × Ob)) (v : GV) (H' : List (Nat × Ob)) : Prop :=
  ∀ (X : Cx) (I : Mem) (μ : Locs) (β : Nat → List Nat) (w : World) (aa : Array Value), X.E = E → X.tB = tB → X.W0 = W0 → X.S = blocksOf β H → X.hb = hasBld H → X.w1 = w → X.df = [] → CxOk X → RowsOk μ → ImmOk X I w → X.B ≤ w.heap.size → RowKit.Below W0.heap.size W0 w →
    HeapB X I μ β w H → aa.size = args.length → (∀ i, i < args.length → RepG I μ (args.getD i .any) (aa.getD i undef)) →
    ∀ u, CallsD P f aa u w fun e u' w' => u' = u ∧ ∃ x J ν, e = .returned x ∧ RepG J ν v x ∧ NewI X I J ∧ (RowsOk ν ∧ Keep μ ν) ∧ ImmOk X J w' ∧ HeapOk X J ν w' H' ∧ Frame X w w'
theorem FnOk.heapD (hE : EnvOk P E tB) {ρ : RhoF} (hρ : RhoAll P E tB W0 ρ) {g : FuncId} {fn : Func} {c : Code} (h : FnOk P g fn) (hc : fn.body = some c) (k : Nat) {args : List GV} {H H' : List (Nat × Ob)} {v : GV}
    (hx : execHeap E (ρ (GV × List (Nat × Ob))) (lamN E fn.ntmps (ρ (GV × List (Nat × Ob))) (lsOf c) k) fn args H (fun v H => some (v, H)) = some (v, H')) : HeapFnD P E tB W0 g args H v H' := by
  have hb := h.body
  unfold bodyB at hb
  rw [hc] at hb
  intro X I μ β w aa hX hT hW hS hbb h1 hdf hcx hro him hB hbel hheap hl ha u
  have := heapWp_of (P := P) (W0 := W0) (ρ := ρ) (Λ := fun R => lamN E fn.ntmps (ρ R) (lsOf c) k) hE hρ.ok h.at_ h.name hc (fun R => lamN_ok hE (hρ.ok R) hb k) (fun R b _ J hJ => by rw [lamN_odd] at hJ; cases hJ) hx X I μ β w aa hX hT hW hS hbb h1 hdf hcx hro him hB hbel hheap hl ha
  exact callsD_of_wp (u := u) h.at_ hc this

/-! All keys as if handed. -/
def liftKey (q : Nat) : Nat := bif Nat.blt q 1000 then Nat.add q 1000 else q
def lowKeys (ks : List Nat) : Bool := ks.all fun k => Nat.blt k 1000
def liftOk (st : St) : Bool := st.t.all (fun x => lowKeys x.2.keys) && st.h.all fun x => Nat.blt x.1 1000 && lowKeys x.2.keys
def St.lift (st : St) : St := { t := st.t.map fun x => (x.1, x.2.map (CV.ren liftKey)), h := st.h.map fun x => (liftKey x.1, x.2.map (CV.ren liftKey)) }
theorem liftKey_low {q : Nat} (h : q < 1000) : liftKey q = q + 1000 := by
  have e1 : Nat.blt q 1000 = true := by rw [Nat.blt_eq]; exact h
  simp only [liftKey, e1, cond_true, Nat.add_eq]
def muLift (μ : Locs) : Locs := fun k => if 1000 ≤ k ∧ k < 2000 then μ (k - 1000) else none
theorem lowKeys_iff {ks : List Nat} : lowKeys ks = true ↔ ∀ k, k ∈ ks → k < 1000 := by
  simp only [lowKeys, List.all_eq_true, Nat.blt_eq]
theorem Sim.lift {X : Cx} {n : Nat} {I : Mem} {μ : Locs} {st : St} {a : Act} {w : World} (hr : RowsOk μ) (h : Sim X n I μ st a w) (hk : liftOk st = true) : RowsOk (muLift μ) ∧ Sim X n I (muLift μ) st.lift a w := by
  simp only [liftOk, Bool.and_eq_true, List.all_eq_true, Nat.blt_eq] at hk
  obtain ⟨hk1, hk2⟩ := hk
  have hmu : ∀ q, q < 1000 → muLift μ (liftKey q) = μ q := by
    intro q hq
    rw [liftKey_low hq, muLift, if_pos (by omega), Nat.add_sub_cancel]
  refine ⟨fun r v c hrc => ?_, ?_⟩
  · unfold muLift at hrc
    split at hrc
    · exact hr _ v c hrc
    · cases hrc
  · have ho : ∀ k o, look (st.lift).h k = some o → ∃ k0 p, look st.h k0 = some p ∧ k = liftKey k0 ∧ o = p.map (CV.ren liftKey) ∧ k0 < 1000 ∧ ∀ j, j ∈ p.keys → j < 1000 := by
      intro k o hk
      obtain ⟨k0, p, h1, h2, h3⟩ := look_mapK hk
      have hmem := look_mem _ _ _ h1
      exact ⟨k0, p, h1, h2, h3, (hk2 _ hmem).1, lowKeys_iff.1 (hk2 _ hmem).2⟩
    refine h.told (fun i v hv => ?_) (fun k => k - 1000) (fun k k' o o' hk hk' e => ?_) (fun k o hk => ?_)
    · have hmem := look_mem _ _ _ hv
      obtain ⟨x, hx, e⟩ := List.mem_map.1 hmem
      injection e with e1 e2
      have hl : (look st.t i).isSome = true := look_isSome _ _ |>.2 (by rw [← e1]; exact List.mem_map.2 ⟨x, hx, rfl⟩)
      have hv2 : ∃ u, look st.t i = some u ∧ v = u.map (CV.ren liftKey) := by
        have : look (st.lift).t i = (look st.t i).map (GV.map (CV.ren liftKey)) := look_map _ _ _
        rw [this] at hv
        obtain ⟨u, hu, rfl⟩ := Option.map_eq_some_iff.1 hv
        exact ⟨u, hu, rfl⟩
      obtain ⟨u, hu, rfl⟩ := hv2
      have hlow := lowKeys_iff.1 (hk1 _ (look_mem _ _ _ hu))
      exact (h.t _ _ hu).ren fun r hrr => hmu r (hlow r hrr)
    · obtain ⟨k0, p, h1, rfl, _, h4, _⟩ := ho k o hk
      obtain ⟨k1, p', h1', rfl, _, h4', _⟩ := ho k' o' hk'
      rw [liftKey_low h4, liftKey_low h4'] at e
      rw [liftKey_low h4, liftKey_low h4']
      have e : k0 + 1000 - 1000 = k1 + 1000 - 1000 := e
      omega
    · obtain ⟨k0, p, h1, rfl, rfl, h4, h5⟩ := ho k o hk
      have e : liftKey k0 - 1000 = k0 := by rw [liftKey_low h4]; omega
      rw [e]
      exact ⟨hmu k0 h4, p, h1, fun bs hbs => hbs.ren rfl rfl rfl (hmu k0 h4) (fun j hj => hmu j (h5 j hj)) (fun _ _ _ h => h), Ob.map_isBld _ p, Ob.map_isByte _ X.E p⟩
/-- The same, other calls deferred. -/
theorem Sim.withDf {X : Cx} {n : Nat} {I : Mem} {μ : Locs} {st : St} {a a2 : Act} {w : World} (h : Sim X n I μ st a w) (df : List Deferred) (ht : a2.tmps = a.tmps) (hd : a2.defers = df) : Sim { X with df := df } n I μ st a2 w := by
  obtain ⟨β, hβ⟩ := h.h
  refine ⟨by rw [ht]; exact h.size, hd, fun i v hv => by rw [ht]; exact h.t i v hv, ⟨β, hβ.sub (fun q o ho => ⟨o, ho, ?_, rfl, rfl⟩) (fun _ _ _ _ _ _ _ h => h) (fun _ h => h)⟩, h.im, h.bw, ⟨h.fr.os, h.fr.tape, h.fr.output, h.fr.size, h.fr.keep⟩, ⟨h.cx.low, h.cx.low1, h.cx.lowB⟩, h.base⟩
  have := (hβ.ok q o ho).ren (X := { X with df := df }) (μ := μ) (f := fun k => k) rfl rfl rfl rfl (fun _ _ => rfl) (fun _ _ _ h => h)
  have e : o.map (CV.ren fun k => k) = o := by
    have : (CV.ren fun k => k) = fun v => v := by
      funext v
      cases v <;> simp [CV.ren]
    rw [this, Ob.map_id]
  rwa [e] at this

/-! A function that defers a closure over variables of its own. -/
def natP (f : List PV → Option GV) : PureG := fun us R K => (f us).bind K
theorem natP_ok {g : FuncId} {f : List PV → Option GV} (h : ∀ us v, f us = some v → PureFn P E W0 g us v) : PureOk P E W0 g (natP f) :=
  ⟨fun us R K => by simp [natP], fun us v hv => h us v (by simpa [natP] using hv)⟩
def natH (f : List GV → List (Nat × Ob) → Option (GV × List (Nat × Ob))) : HeapG := fun us H R K => (f us H).bind fun p => K p.1 p.2
theorem natH_ok {g : FuncId} {f : List GV → List (Nat × Ob) → Option (GV × List (Nat × Ob))} (h : ∀ us H v H', f us H = some (v, H') → HeapFn P E tB W0 g us H v H') : HeapGOk P E tB W0 g (natH f) :=
  ⟨fun us H R K => by unfold natH; cases f us H <;> rfl, fun us H v H' hv => h us H v H' (by
    unfold natH at hv
    cases hf : f us H with
    | none => rw [hf] at hv; cases hv
    | some p => rw [hf] at hv; exact hv)⟩
def isEnd : Exit → Bool
  | .normal => true
  | .ret => true
  | _ => false
def boxKeyed (h : List (Nat × Ob)) (r : Nat) : Bool := Nat.ble 1000 r && (Nat.blt r 2000 && match look h r with
  | some (.box _) => true
  | _ => false)
def keyless (v : GV) : Bool := match v.keys with
  | [] => true
  | _ => false
def pureD0 (E : Env) (ρ : RhoF) (fn : Func) (r0 rest : Code) (o1 : Oper) (t g : Nat) (gn : Func) (gc : Code) (us : List PV) : Option GV :=
  bif Nat.ble us.length fn.ntmps && Nat.beq fn.results.size fn.resultTypes.size then
    exec E fn.ntmps (ρ GV) (fun _ => none) r0 { t := args0 0 (us.map .pv), h := [] } fun e st => match e with
      | .normal => bif okDst fn.ntmps o1.dst then evOp E (ρ GV) o1 st fun v st =>
        bif liftOk (st.put o1.dst v) then
          match (st.put o1.dst v).lift.get t with
          | .c (.fn g' rs) => bif Nat.beq g' g && rs.all (boxKeyed (st.put o1.dst v).lift.h) then
              exec E fn.ntmps (ρ GV) (fun _ => none) rest (st.put o1.dst v).lift fun e st => bif isEnd e then
                callHeap E 999 st (ptrs rs) (fun us H K => execHeap E (ρ GV) (lamN E gn.ntmps (ρ GV) (lsOf gc) 2000) gn us H K) fun _ st => retPure E fn some .normal st
                else none
              else none
          | _ => none
        else none
        else none
      | _ => none
  else none
def pureD (E : Env) (ρ : RhoF) (fn : Func) (r0 rest : Code) (o1 : Oper) (t g : Nat) (gn : Func) (gc : Code) (us : List PV) : Option GV :=
  match pureD0 E ρ fn r0 rest o1 t g gn gc us with
  | some v => bif keyless v then some v else none
  | none => none
theorem loops_none {E : Env} {n : Nat} {R : Type} {ρ : FuncId → Option (Callee R)} {c : Code} : ∀ b, b ∈ seconds c → ∀ J : Wrap R, (fun _ => none : Nat → Option (Wrap R)) (2 * fr b + 1) = some J → CutOk E n ρ (fun _ => none) b J := fun b _ J h => by cases h
theorem pureD_ok (hE : EnvOk P E tB) {ρ : RhoF} (hρ : RhoAll P E tB W0 ρ) {f : FuncId} {fn : Func} (hf : P.funcs[f]? = some fn) (hname : (fn.name == "runtime.NumGoroutine") = false) {r0 rest : Code} {id : Nat} {o1 o2 : Oper} {t g : Nat} {gn : Func} {gc : Code} {ts : Array TypeId}
    (hb : fn.body = some (.seq r0 (.seq (.region id #[o1, o2] false) rest))) (ho1 : o1.guard = none) (ho2 : o2.op = .defer { callee := .value (.tmp t), args := #[], argTypes := ts }) (ho2g : o2.guard = none) (ho2d : o2.dst = none)
    (hbn : bnd g = false) (hg : FnOk P g gn) (hgc : gn.body = some gc) : PureOk P E W0 f (natP (pureD E ρ fn r0 rest o1 t g gn gc)) := by
  refine natP_ok fun args v h => ?_
  unfold pureD at h
  cases h0 : pureD0 E ρ fn r0 rest o1 t g gn gc args with
  | none => rw [h0] at h; cases h
  | some v0 =>
    rw [h0] at h
    simp only at h
    have hkey : v.keys = [] ∧ v0 = v := by
      cases hk : keyless v0
      · rw [hk] at h; cases h
      · rw [hk] at h
        simp only [cond_true, Option.some.injEq] at h
        subst h
        refine ⟨?_, rfl⟩
        unfold keyless at hk
        split at hk
        · assumption
        · cases hk
    obtain ⟨hvk, rfl⟩ := hkey
    clear h
    refine ⟨hvk, ?_⟩
    unfold pureD0 at h0
    cases hc : Nat.ble args.length fn.ntmps && Nat.beq fn.results.size fn.resultTypes.size
    · rw [hc] at h0; exact absurd h0 (by simp)
    simp only [hc, cond_true] at h0
    simp only [Bool.and_eq_true, nbeq, decide_eq_true_eq] at hc
    have hle := Nat.le_of_ble_eq_true hc.1
    intro X I w aa hX hW him hB hW0 hbel hl ha
    let X' : Cx := { E := E, tB := tB, B := w.heap.size, S := fun _ => False, hb := false, bb := 0, w1 := w, W0 := W0 }
    have him' : ImmOk X' I w := by
      intro b o u hu
      rcases him b o u hu with ⟨h0, arr, T, fz, h1, h2, _⟩ | k
      · exact .inl ⟨h0, arr, T, fz, h1, h2, .inl (Array.getElem?_eq_some_iff.1 h1).1⟩
      · exact .inr k
    have hheap : HeapOk X' I (fun _ => none) w [] := ⟨fun _ => [], fun r o ho => by simp [look] at ho, fun r o ho => by simp [look] at ho, fun r _ o _ ho => by simp [look] at ho, fun r o ho => by simp [look] at ho, fun r o ho => by simp [look] at ho, fun r _ o _ ho => by simp [look] at ho⟩
    have hs0 : Sim X' fn.ntmps I (fun _ => none) { t := args0 0 (args.map .pv), h := [] } (act0 fn.ntmps aa) w := by
      refine Sim.begin (by omega) (by simpa using hl) (fun i hi => ?_) hheap him' (Nat.le_refl _) rfl rfl ⟨fun k hk => hk.elim, Nat.le_trans hW0 hB, Nat.le_trans hW0 hB⟩ hbel
      have hi' : i < args.length := by simpa using hi
      have e : (args.map GV.pv).getD i .any = .pv (args.getD i .any) := by simp [List.getD_eq_getElem?_getD, hi']
      rw [e]
      exact ha i hi'
    have hen := enters_of (P := P) hf hname (by rw [hb]; rfl)
    refine Meets.of hen (calls_of_wp_defers hf hb ?_)
    show (Code.seq r0 (.seq (.region id #[o1, o2] false) rest)).wp P _ (act0 fn.ntmps aa) w
    refine wp_seq (exec_sound (X := X') (μ := fun _ => none) hE (hρ.ok GV) r0 (fun c' _ L hL => by cases hL) loops_none h0 rfl rfl rfl (fun r v c h => by cases h) hs0 ?_)
    intro e st hK0 J1 ν1 a1 w1 m1 m2 m3 m4
    cases e with
    | normal =>
      simp only at hK0
      show (Code.seq (.region id #[o1, o2] false) rest).wp P _ a1 w1
      cases hdst : okDst fn.ntmps o1.dst
      · rw [hdst] at hK0; exact absurd hK0 (by simp)
      simp only [hdst, cond_true] at hK0
      obtain ⟨v1, st1, hK, hd1⟩ := evOp_inv hE (hρ.ok GV) (okDst_lt hdst) hK0
      clear hK0
      cases hlk : liftOk (st1.put o1.dst v1)
      · rw [hlk] at hK; exact absurd hK (by simp)
      simp only [hlk, cond_true] at hK
      split at hK
      rotate_left
      · cases hK
      rename_i g' rs hget
      cases hgr : Nat.beq g' g && rs.all (boxKeyed (st1.put o1.dst v1).lift.h)
      · rw [hgr] at hK; exact absurd hK (by simp)
      simp only [hgr, cond_true] at hK
      simp only [Bool.and_eq_true, nbeq, decide_eq_true_eq, List.all_eq_true] at hgr
      obtain ⟨rfl, hrs⟩ := hgr
      refine wp_seq (wp_region ?_)
      show wpOps P #[o1, o2] _ [0, 1] a1 w1
      rw [wpOps_cons]
      refine (hd1 (X := X') rfl rfl rfl m2 m4).wpOp (by rfl) (by simp [Region.wanted, ho1]) ?_
      rintro x1 w2 ⟨J2, ν2, n1, ⟨n2, n3⟩, n4, n5⟩
      have s2 := n4.put n5 hdst
      obtain ⟨n6, s3⟩ := s2.lift n2 hlk
      have hfv := s3.get t
      rw [hget] at hfv
      obtain ⟨fs, vs, f1, f2, f3, f4⟩ := hfv
      have f2 := f2 hbn
      subst f2
      have hu : unb g' = g' := by simp [unb, hbn]
      rw [hu] at f1
      have hvs : vs.size = rs.length := by simpa using f3
      generalize ha2 : a1.put o1.dst x1 = a2 at s2 s3 f1
      let d : Deferred := { target := .fn (.func g') vs, args := #[] }
      show wpOps P #[o1, o2] _ [1] a2 w2
      rw [wpOps_cons]
      have hrun : (execOp a2.eval o2).run P w2 = .ok (.defer d) w2 := by
        have e1 : a2.eval (.tmp t) = .func (.func g') #[] vs := f1
        simp [execOp, ho2, resolve, e1, Deferred.ofValue, d, Result.andThen]
      have hw2 : Region.wanted o2 (yielded #[o1, o2] a2.tmps) = true := by simp [Region.wanted, ho2g]
      show wpOp P #[o1, o2] _ 1 _ a2 w2
      have ho2' : (#[o1, o2] : Array Oper)[1]? = some o2 := rfl
      unfold wpOp
      rw [ho2']
      simp only [hw2, if_true]
      refine .inl ?_
      unfold Oper.wp
      rw [hrun, Oper.upon_defer, ho2d]
      show rest.wp P _ _ w2
      have s4 : Sim { X' with df := [d] } fn.ntmps J2 (muLift ν2) (st1.put o1.dst v1).lift ({ a2 with defers := d :: a2.defers } : Act) w2 := s3.withDf [d] rfl (by show d :: a2.defers = [d]; rw [s3.defers])
      refine exec_sound (X := { X' with df := [d] }) hE (hρ.ok GV) rest (fun c' _ L hL => by cases hL) loops_none hK rfl rfl rfl n6 s4 ?_
      intro e3 st3 hK3 J3 ν3 a3 w3 p1 p2 p3 p4
      simp only at hK3
      cases hend : isEnd e3
      · rw [hend] at hK3; exact absurd hK3 (by simp)
      simp only [hend, cond_true] at hK3
      have hpost : Leaves P fn a3.tmps (fun e w' => ∃ x J, e = .returned x ∧ RepG J (fun _ => none) v0 x ∧ MemLe I J ∧ (∀ b o u, J b o = some u → I b o = some u ∨ w.heap.size ≤ b) ∧ ImmOk X J w' ∧ RowKit.Below w.heap.size w w') a3.defers .returning w3 := by
        rw [p4.defers]
        show Leaves P fn a3.tmps _ [d] .returning w3
        have hF : ∀ (args : List GV) (H : List (Nat × Ob)) (K : GV → List (Nat × Ob) → Option GV) (r : GV), (fun us H K => execHeap E (ρ GV) (lamN E gn.ntmps (ρ GV) (lsOf gc) 2000) gn us H K) args H K = some r → ∃ v H', K v H' = some r ∧ HeapFnD P E tB W0 g' args H v H' := by
          intro args H K r hr
          have hn := execHeap_nat E (Λ := fun R => lamN E gn.ntmps (ρ R) (lsOf gc) 2000) hρ.nat gn (fun c' hc' => by rw [hgc] at hc'; injection hc' with hc'; rw [← hc']; exact fnOk_lam hρ.nat gn.ntmps gc 2000) args H GV K
          simp only at hr hn
          rw [hr] at hn
          obtain ⟨p, q1, q2⟩ := Option.bind_eq_some_iff.1 hn.symm
          exact ⟨p.1, p.2, q2, hg.heapD hE hρ hgc 2000 q1⟩
        obtain ⟨v4, st4, ks, vv, HH, hK4, hGd, hcall⟩ := callHeapT (tB := tB) (W0 := W0) hF hK3
        refine leaves_cons (f := g') (args := vs) (by simp) ?_ ?_
        · show (callFunc g' (#[] ++ vs)).run P w3 = _
          rw [Array.empty_append]
          exact enters_of hg.at_ hg.name (by rw [hgc]; rfl) w3 vs
        have hvr : ∀ i, i < (ptrs rs).length → RepG J3 ν3 ((ptrs rs).getD i .any) (vs.getD i undef) := by
          intro i hi
          have hi' : i < rs.length := by simpa [ptrs] using hi
          have e1 : (ptrs rs).getD i .any = .c (.ptr rs[i] 0) := by simp [ptrs, List.getD_eq_getElem?_getD, hi']
          rw [e1]
          have q := f4 i rs[i] (List.getElem?_eq_getElem hi')
          have q : PtrAt (muLift ν2) rs[i] 0 (vs.getD i undef) := by simpa using q
          refine PtrAt.agree q ?_
          have hbx := hrs rs[i] (List.getElem_mem hi')
          unfold boxKeyed at hbx
          simp only [Bool.and_eq_true, Nat.ble_eq, Nat.blt_eq] at hbx
          obtain ⟨b1, b2, b3⟩ := hbx
          split at b3
          · rename_i cs hcs
            obtain ⟨β, hβ⟩ := s3.h
            obtain ⟨b, _, _, _, _, q1, _⟩ := hβ.ok _ _ hcs
            rw [q1]
            exact Keep.stay p3 _ _ b1 b2 q1 rfl
          · cases b3
        refine (hcall (T := fun Post => CallsD P g' vs .returning w3 fun e u' w' => u' = .returning ∧ ∃ x, e = .returned x ∧ Post x w') (fun A B hAB hA => hA.mono fun e u' w' ⟨q1, x, q2, q3⟩ => ⟨q1, x, q2, hAB x w' q3⟩) [] (X := { X' with df := [d] }) rfl rfl rfl p2 p4 (by simp [ptrs, hvs]) hvr ?_).mono ?_
        · intro X2 μ2 β2 e1 e2 e3 e4 e5 e6 e7 hB2 hcx2 hro2 him2 hbase2 hheap2 hl2 ha2
          refine (hGd X2 J3 μ2 β2 w3 vs e1 e2 e3 e4 e5 e6 e7 hcx2 hro2 him2 hB2 hbase2 hheap2 hl2 ha2 .returning).mono ?_
          rintro e u' w' ⟨q1, x, J, ν, q2, q3, q4, q5, q6, q7, q8⟩
          exact ⟨q1, x, q2, J, ν, q3, q4, q5, q6, q7, q8⟩
        · rintro e u' w4 ⟨rfl, x, rfl, J4, ν4, r1, ⟨r2, r3⟩, r4, r5⟩
          show Leaves P fn a3.tmps _ [] .returning w4
          have hw : wResults E (fn.results.toList.zip fn.resultTypes.toList) st4 [] (oneOrAll some) = some v0 := hK4
          have hvv : ∀ vs, oneOrAll (R := GV) some vs = some v0 → (∃ y, vs = [y] ∧ v0 = .pv y) ∨ (vs.length ≠ 1 ∧ v0 = .tup (vs.map .p)) := by
            intro vs h
            unfold oneOrAll at h
            split at h
            · rename_i y
              injection h with h
              subst h
              exact .inl ⟨y, rfl, rfl⟩
            · rename_i hne
              injection h with h
              subst h
              refine .inr ⟨fun h1 => ?_, rfl⟩
              obtain ⟨y, hy⟩ := List.length_eq_one_iff.1 h1
              exact hne y hy
          obtain ⟨us, k1, k2, k3⟩ := wResults_inv hE hw
          obtain ⟨L, st', xs, g1, g2, g3, g4, g5⟩ := k3 rfl r2 r4
          simp only [List.reverse_nil, List.nil_append] at k1
          have hmap : (fn.results.toList.zip fn.resultTypes.toList).map (fun x => x.1) = fn.results.toList := by
            rw [List.map_fst_zip]
            simp [hc.2]
          rw [hmap] at g3
          have hres := results_run g3
          have hNI : NewI X' I L := m1.trans (n1.trans ((show NewI X' J2 J3 from p1).trans ((show NewI X' J3 J4 from r1).trans (show NewI X' J4 L from g1))))
          have hbelow : RowKit.Below w.heap.size w w4 := by
            refine ⟨r4.fr.os, r4.fr.tape, r4.fr.output, r4.fr.size, fun k hk => ?_⟩
            have e1 : w.heap[k]? = some w.heap[k] := by simp [hk]
            rw [e1]
            exact r4.fr.keep k _ e1 (fun h => h) (fun h => by cases h)
          refine ⟨_, hres, _, L, rfl, ?_, hNI.1, fun b o u hu => ?_, ?_, hbelow⟩
          · rcases hvv us k1 with ⟨y, rfl, rfl⟩ | ⟨hne, rfl⟩
            · have hx1 : xs.length = 1 := by rw [g4, ← k2]; rfl
              obtain ⟨x, rfl⟩ := List.length_eq_one_iff.1 hx1
              have : RepP L y x := by simpa using g5 0 (by simp)
              exact this
            · have hx1 : xs.toArray.size ≠ 1 := by simp [g4, ← k2]; exact hne
              rw [dif_neg hx1]
              refine ⟨xs.toArray, rfl, by simp [g4, ← k2], fun i u hu => ?_⟩
              rw [List.getElem?_map] at hu
              obtain ⟨y, hy, rfl⟩ := Option.map_eq_some_iff.1 hu
              have hi : i < us.length := (List.getElem?_eq_some_iff.1 hy).1
              have := g5 i hi
              rw [List.getD_eq_getElem?_getD, hy] at this
              rw [agetD]
              exact this
          · rcases hNI.2 b o u hu with h | h | h
            · exact .inl h
            · exact h.elim
            · exact .inr h
          · intro b o u hu
            refine (g2.im b o u hu).elim (fun ⟨q0, arr, T, fz, q1, q2, q3⟩ => ?_) .inr
            refine .inl ⟨q0, arr, T, fz, q1, q2, ?_⟩
            rcases hNI.2 b o u hu with h | h | h
            · obtain ⟨arr', T', fz', y1, y2, y3⟩ := him.cell h q0
              have hlt := (Array.getElem?_eq_some_iff.1 y1).1
              rw [hbelow.block b hlt, y1] at q1
              injection q1 with q1
              injection q1 with _ q1 _
              rw [← q1]
              exact y3
            · exact h.elim
            · rcases q3 with q3 | q3
              · have q3' : b < w.heap.size := q3
                have h' : w.heap.size ≤ b := h
                omega
              · rw [hX]; exact .inr q3
      cases e3 with
      | normal => exact hpost
      | ret => exact hpost
      | _ => cases hend
    | _ => cases hK0
end
end Go.Dip
end

/- Library functions as the evaluator's callees: atomics on a variable's cells, sync.Once. -/
section
set_option linter.unusedVariables false
set_option linter.unusedSimpArgs false
namespace Go.Dip
open Go.RowKit

section
variable {P : Program} {E : Env} {tB : TypeId} {W0 : World}

/-- A call that is handed objects, told from one state to another. -/
theorem HeapFn.sim {f : FuncId} {args : List GV} {H : List (Nat × Ob)} {v : GV} {st' : St}
    (h : ∀ {X : Cx} {I : Mem} {μ : Locs} {a : Act} {w : World} {aa : Array Value}, X.E = E → X.tB = tB → X.W0 = W0 → RowsOk μ → Sim X 0 I μ ⟨[], H⟩ a w → aa.size = args.length → (∀ i, i < args.length → RepG I μ (args.getD i .any) (aa.getD i undef)) →
      Meets P f aa w fun e w' => ∃ x J ν, e = .returned x ∧ RepG J ν v x ∧ NewI X I J ∧ (RowsOk ν ∧ Keep μ ν) ∧ Sim X 0 J ν st' a w') : HeapFn P E tB W0 f args H v st'.h := by
  intro X I μ β w aa hX hT hW hS hbb h1 hdf hcx hro him hB hbel hheap hl hargs
  have h2 : Sim X 0 I μ ⟨[], H⟩ { tmps := #[], defers := [] } w := by
    refine ⟨rfl, hdf.symm, fun i v hv => (by cases hv), ⟨β, hheap⟩, him, hB, ?_, hcx, ?_⟩
    · rw [h1]; exact ⟨rfl, rfl, rfl, Nat.le_refl _, fun b o h _ _ => h⟩
    · rw [hW]; exact hbel
  refine (h hX hT hW hro h2 hl hargs).mono ?_
  rintro e w' ⟨x, J, ν, rfl, k1, k2, k3, k4⟩
  refine ⟨x, J, ν, rfl, k1, k2, k3, k4.im, k4.h, ?_⟩
  have := k4.fr
  rw [h1] at this
  exact this
theorem splice_one {α : Type} : ∀ (cs : List α) (off : Nat) (v : α), off < cs.length → splice cs off [v] = cs.set off v
  | [], off, v, h => by simp at h
  | x :: cs, 0, v, h => by simp [splice]
  | x :: cs, off + 1, v, h => by
    have := splice_one cs off v (by simpa using h)
    simp only [splice, List.length_cons, List.length_nil] at this ⊢
    simp only [List.take_succ_cons, List.set_cons_succ, ← this, List.cons_append, List.drop_succ_cons]
theorem setCell_row {w : World} {b off : Nat} {arr : Array Value} {T : TypeId} {v : Value} (h : w.heap[b]? = some (.cells arr T (0, 0))) (hlt : off < arr.size) : w.setRow b (splice arr.toList off [v]).toArray = w.setCell ⟨b, off, none⟩ v := by
  have hb := (Array.getElem?_eq_some_iff.1 h).1
  have hbv : w.heap[b] = .cells arr T (0, 0) := by
    have := (Array.getElem?_eq_some_iff.1 h).2
    exact this
  have e : (splice arr.toList off [v]).toArray = arr.setIfInBounds off v := by
    rw [splice_one _ _ _ (by simpa using hlt)]
    apply Array.ext'
    simp
  unfold World.setRow World.setCell
  rw [e]
  congr 1
  apply Array.ext
  · simp
  · intro i h1 h2
    by_cases hi : i = b
    · subst hi
      simp [Array.getElem_modify, hbv]
    · simp [Array.getElem_modify, Ne.symm hi]
/-- A number in a variable's cell. -/
theorem Sim.cellAt {X : Cx} {n : Nat} {I : Mem} {μ : Locs} {st : St} {a : Act} {w : World} {r off : Nat} {cs : List CV} {k : IntKind} {x : Int} {y : Value} (hE : EnvOk P X.E X.tB) (hs : Sim X n I μ st a w) (ho : look st.h r = some (.box cs)) (hc : cs[off]? = some (.p (.int k x))) (hy : PtrAt μ r off y) :
    ∃ b, y = .pointer (some ⟨b, off, none⟩) ∧ μ r = some (.box b) ∧ w.cell? ⟨b, off, none⟩ = some (.int k x) ∧ w.frozen? ⟨b, off, none⟩ = false ∧ ∀ (k' : IntKind) (z : Int), Sim X n I μ (Dip.setOb r (.box (cs.set off (.p (.int k' z)))) st) a (w.setCell ⟨b, off, none⟩ (.int k' z)) := by
  have hlt : off < cs.length := (List.getElem?_eq_some_iff.1 hc).1
  obtain ⟨β, hβ⟩ := hs.h
  obtain ⟨b, arr, T, is, hbs, h1, h2, h3, h4, h5⟩ := hβ.ok r _ ho
  have hy' : y = .pointer (some ⟨b, off, none⟩) := by
    rcases hy with ⟨b', h6, rfl⟩ | ⟨b', h6, _⟩
    · rw [h1] at h6; injection h6 with h6; injection h6 with h6; subst h6; rfl
    · rw [h1] at h6
      rcases h6 with ⟨_, h6⟩ | h6 <;> (injection h6 with h6; cases h6)
  obtain ⟨hl, bss, l1, l2, l3⟩ := h5
  have hsz : off < arr.size := by simpa [hl] using (show off < arr.toList.length by omega)
  have hval : arr[off] = .int k x := by
    have := ((CellO.ref (by rfl)).1 (l3 off _ hc).1).1
    have := repInt (I := I) this
    simpa [List.getD_eq_getElem?_getD, hsz] using this
  refine ⟨b, hy', h1, ?_, ?_, fun k' z => ?_⟩
  · simp [World.cell?, h3, hsz, hval]
  · simp [World.frozen?, h3]
  · have htb := hE.tb
    obtain ⟨d, i, _, _, h6, h7, _⟩ := hE.scalar X.E.tb (by rw [htb]; rfl)
    have k1 : RepCs I μ [CV.p (.int k' z)] (Value.int k' z).cells.toList := ⟨rfl, fun i v hv => by
      cases i with
      | zero =>
        simp only [List.getElem?_cons_zero, Option.some.injEq] at hv
        subst hv
        exact ⟨RepP.int k' z, rfl⟩
      | succ i => simp at hv⟩
    obtain ⟨w', m1, m2⟩ := hs.boxStore (P := P) (t := X.E.tb) (v := .int k' z) (y := y) ho hy k1 (by simp only [List.length_cons, List.length_nil]; omega) ⟨i, h6, by rw [h7]; rfl⟩
    have m3 := run_storeAt' (P := P) (t := X.E.tb) (o := off) (v := .int k' z) h6 (by rw [h7]; rfl) h3 (by show off + 1 ≤ arr.size; omega) (by simp [Value.cells, Value.oneCell'])
    rw [hy', m3] at m1
    injection m1 with _ m1
    rw [← m1] at m2
    rw [splice_one _ _ _ hlt] at m2
    have e : (Value.int k' z).cells.toList = [.int k' z] := rfl
    rw [e, setCell_row h3 hsz] at m2
    exact m2

/-! Atomics. -/
def cellI (H : List (Nat × Ob)) (r off : Nat) (k : IntKind) : Option (List CV × Int) := match look H r with
  | some (.box cs) => match cs[off]? with
    | some (.p (.int k' x)) => bif decide (k' = k) then some (cs, x) else none
    | _ => none
  | _ => none
theorem cellI_inv {H : List (Nat × Ob)} {r off : Nat} {k : IntKind} {p : List CV × Int} (h : cellI H r off k = some p) : look H r = some (.box p.1) ∧ p.1[off]? = some (.p (.int k p.2)) := by
  unfold cellI at h
  split at h
  · rename_i cs hcs
    split at h
    · rename_i k' x hx
      cases hk : decide (k' = k)
      · rw [hk] at h; cases h
      · rw [hk] at h
        simp only [cond_true, Option.some.injEq] at h
        subst h
        have := of_decide_eq_true hk
        subst this
        exact ⟨hcs, hx⟩
    · cases h
  · cases h
def loadG (k : IntKind) : HeapG := fun us H R K => match us with
  | [.c (.ptr r off)] => match cellI H r off k with
    | some p => K (.pv (.int k p.2)) H
    | none => none
  | _ => none
theorem lib_load (hE : EnvOk P E tB) {f : FuncId} (k : IntKind) (hrun : ∀ (a : Addr) (x : Int) (w : World), w.cell? a = some (.int k x) → (callFunc f #[.pointer (some a)]).run P w = .ok (.value (.int k x)) w) : HeapGOk P E tB W0 f (loadG k) := by
  refine HeapGOk.of1 fun us H => ?_
  unfold loadG
  split
  · rename_i r off
    cases hc : cellI H r off k with
    | none => exact .inl fun R K => rfl
    | some p =>
      obtain ⟨c1, c2⟩ := cellI_inv hc
      refine .inr ⟨_, _, fun R K => rfl, HeapFn.sim (st' := ⟨[], H⟩) fun {X I μ a w aa} hX hT hW hr hs hl ha => ?_⟩
      subst hX hT
      obtain ⟨y, rfl, hy⟩ := gargs1 hl ha
      obtain ⟨b, rfl, k1, k2, k3, k4⟩ := hs.cellAt hE c1 c2 hy
      exact .inr ⟨_, w, hrun _ _ _ k2, _, I, μ, rfl, RepP.int _ _, NewI.refl X I, ⟨hr, Keep.refl μ⟩, hs⟩
  · exact .inl fun R K => rfl
def addG (k : IntKind) : HeapG := fun us H R K => match us with
  | [.c (.ptr r off), .c (.p (.int k' y))] => bif decide (k' = k) then match cellI H r off k with
      | some p => K (.pv (.int k (k.wrap (p.2 + y)))) (setOb r (.box (p.1.set off (.p (.int k (k.wrap (p.2 + y)))))) ⟨[], H⟩).h
      | none => none
    else none
  | _ => none
theorem lib_add (hE : EnvOk P E tB) {f : FuncId} (k : IntKind) (hrun : ∀ (a : Addr) (x y s : Int) (w : World), w.cell? a = some (.int k x) → w.frozen? a = false → (Op.intArith .add k x y).run P w = .ok (.int k s) w → (callFunc f #[.pointer (some a), .int k y]).run P w = .ok (.value (.int k s)) (w.setCell a (.int k s))) : HeapGOk P E tB W0 f (addG k) := by
  refine HeapGOk.of1 fun us H => ?_
  unfold addG
  split
  · rename_i r off k' y
    cases hk : decide (k' = k)
    · exact .inl fun R K => rfl
    · have hk := of_decide_eq_true hk
      subst hk
      cases hc : cellI H r off k' with
      | none => exact .inl fun R K => rfl
      | some p =>
        obtain ⟨c1, c2⟩ := cellI_inv hc
        refine .inr ⟨_, _, fun R K => rfl, HeapFn.sim (st' := setOb r (.box (p.1.set off (.p (.int k' (k'.wrap (p.2 + y)))))) ⟨[], H⟩) fun {X I μ a w aa} hX hT hW hr hs hl ha => ?_⟩
        subst hX hT
        obtain ⟨u, z, rfl, hu, hz⟩ := gargs2 hl ha
        have hz := repInt (I := I) hz
        subst hz
        obtain ⟨b, rfl, k1, k2, k3, k4⟩ := hs.cellAt hE c1 c2 hu
        exact .inr ⟨_, _, hrun _ _ y (k'.wrap (p.2 + y)) _ k2 k3 rfl, _, I, μ, rfl, RepP.int _ _, NewI.refl X I, ⟨hr, Keep.refl μ⟩, k4 k' _⟩
  · exact .inl fun R K => rfl

/-! sync.Once, not yet done, its lock free. -/
def slowG0 (E : Env) (ρ : RhoF) (gs : List Nat) (us : List GV) (H : List (Nat × Ob)) : Option (GV × List (Nat × Ob)) := match us with
  | [.c (.ptr r off), .c (.fn g rs)] => bif isIn gs g && boxKeyed H r then
      match cellI H r off .u32, cellI H r (off + 1) .i32 with
      | some (_, 0), some (cs, 0) => match ρ (GV × List (Nat × Ob)) g with
        | some (.heap F) => callHeap E 999 (setOb r (.box (cs.set (off + 1) (.p (.int .i32 1)))) ⟨[], H⟩) (ptrs rs) F fun _ st =>
            match cellI st.h r off .u32, cellI st.h r (off + 1) .i32 with
            | some (cs1, 0), some (_, 1) => some (.tup [], (setOb r (.box ((cs1.set off (.p (.int .u32 1))).set (off + 1) (.p (.int .i32 0)))) (setOb r (.box (cs1.set off (.p (.int .u32 1)))) st)).h)
            | _, _ => none
        | _ => none
      | _, _ => none
    else none
  | _ => none
theorem lib_slow (hE : EnvOk P E tB) {ρ : RhoF} (hρ : RhoAll P E tB W0 ρ) {f : FuncId} {gs : List Nat} (en : Enters P f) (hgs : ∀ g, g ∈ gs → bnd g = false ∧ Enters P g)
    (hslow : ∀ (b off g : Nat) (vs : Array Value) (w : World) (Q : World → Prop), Enters P g → w.cell? ⟨b, off, none⟩ = some (.int .u32 0) → w.cell? ⟨b, off + 1, none⟩ = some (.int .i32 0) → w.frozen? ⟨b, off, none⟩ = false → w.frozen? ⟨b, off + 1, none⟩ = false →
      (Calls P g vs (w.setCell ⟨b, off + 1, none⟩ (.int .i32 1)) fun e w' => ∃ x, e = .returned x ∧ Q w') →
      (∀ w', Q w' → w'.cell? ⟨b, off, none⟩ = some (.int .u32 0) ∧ w'.cell? ⟨b, off + 1, none⟩ = some (.int .i32 1) ∧ w'.frozen? ⟨b, off, none⟩ = false ∧ w'.frozen? ⟨b, off + 1, none⟩ = false) →
      Calls P f #[.pointer (some ⟨b, off, none⟩), .func (.func g) #[] vs] w fun e w' => e = .returned (.tuple #[]) ∧ ∃ w2, Q w2 ∧ w' = (w2.drew.setCell ⟨b, off, none⟩ (.int .u32 1)).setCell ⟨b, off + 1, none⟩ (.int .i32 0)) :
    HeapGOk P E tB W0 f (natH (slowG0 E ρ gs)) := by
  refine natH_ok fun us H v H' h => ?_
  unfold slowG0 at h
  split at h
  rotate_left
  · cases h
  rename_i r off g rs
  cases h1 : isIn gs g && boxKeyed H r
  · rw [h1] at h; exact absurd h (by simp)
  simp only [h1, cond_true] at h
  simp only [Bool.and_eq_true] at h1
  obtain ⟨hg, hbk⟩ := h1
  obtain ⟨hbn, eng⟩ := hgs g (isIn_iff.1 hg)
  split at h
  rotate_left
  · cases h
  rename_i cs0 cs hc0 hc1
  obtain ⟨c1, c2⟩ := cellI_inv hc0
  obtain ⟨d1, d2⟩ := cellI_inv hc1
  have hcs : cs0 = cs := by
    have : some (Ob.box cs0) = some (Ob.box cs) := c1.symm.trans d1
    injection this with this
    injection this
  subst hcs
  split at h
  rotate_left
  · cases h
  rename_i F hF
  have hFF : ∀ (args : List GV) (H : List (Nat × Ob)) (K : GV → List (Nat × Ob) → Option (GV × List (Nat × Ob))) (r : GV × List (Nat × Ob)), F args H K = some r → ∃ v H', K v H' = some r ∧ HeapFn P E tB W0 g args H v H' := fun args H K r hr => hρ.ok _ g _ hF args H K r hr
  obtain ⟨v4, st4, ks, vv, HH, hK4, hGd, hcall⟩ := callHeapT (tB := tB) (W0 := W0) hFF h
  clear h
  split at hK4
  rotate_left
  · cases hK4
  rename_i cs1 cs2 he0 he1
  obtain ⟨e1, e2⟩ := cellI_inv he0
  obtain ⟨f1, f2⟩ := cellI_inv he1
  have hcs : cs1 = cs2 := by
    have : some (Ob.box cs1) = some (Ob.box cs2) := e1.symm.trans f1
    injection this with this
    injection this
  subst hcs
  simp only [Option.some.injEq, Prod.mk.injEq] at hK4
  obtain ⟨rfl, rfl⟩ := hK4
  refine HeapFn.sim fun {X I μ a w aa} hX hT hW hr hs hl ha => ?_
  subst hX hT
  obtain ⟨y, z, rfl, hy, hz⟩ := gargs2 hl ha
  have hy : PtrAt μ r off y := hy
  obtain ⟨fs, vs, z1, z2, z3, z4⟩ := hz
  have z2 := z2 hbn
  subst z2
  have hu : unb g = g := by simp [unb, hbn]
  rw [hu] at z1
  subst z1
  have hvs : vs.size = rs.length := by simpa using z3
  obtain ⟨b, rfl, k1, k2, k3, _⟩ := hs.cellAt hE c1 c2 hy
  have hy1 : PtrAt μ r (off + 1) (.pointer (some ⟨b, off + 1, none⟩)) := .inl ⟨b, k1, rfl⟩
  obtain ⟨b', hb', _, l2, l3, l4⟩ := hs.cellAt hE d1 d2 hy1
  obtain rfl : b = b' := by simpa using hb'
  have hs1 := l4 .i32 1
  have hkeep : ∀ {ν : Locs}, Keep μ ν → ν r = some (.box b) := by
    intro ν hk
    unfold boxKeyed at hbk
    simp only [Bool.and_eq_true, Nat.ble_eq, Nat.blt_eq] at hbk
    exact Keep.stay hk r _ hbk.1 hbk.2.1 k1 rfl
  refine Meets.of en ((hslow b off g vs w (fun w2 => ∃ J ν, NewI X I J ∧ (RowsOk ν ∧ Keep μ ν) ∧ Sim X 0 J ν st4 a w2) eng k2 l2 k3 l3 ?_ ?_).mono ?_)
  · refine (hcall (T := fun Post => Calls P g vs (w.setCell ⟨b, off + 1, none⟩ (.int .i32 1)) fun e w' => ∃ x, e = .returned x ∧ Post x w') (fun A B hAB hA => hA.mono fun e w' ⟨x, q2, q3⟩ => ⟨x, q2, hAB x w' q3⟩) [] (X := X) rfl rfl hW hr hs1 (by rw [hvs]; simp [ptrs]) ?_ ?_).mono ?_
    · intro i hi
      have hi' : i < rs.length := by simpa [ptrs] using hi
      have e1 : (ptrs rs).getD i .any = .c (.ptr rs[i] 0) := by simp [ptrs, List.getD_eq_getElem?_getD, hi']
      rw [e1]
      have q := z4 i rs[i] (List.getElem?_eq_getElem hi')
      have q : PtrAt μ rs[i] 0 (vs.getD i undef) := by simpa using q
      exact q
    · intro X2 μ2 β2 m1 m2 m3 m4 m5 m6 m7 hB2 hcx2 hro2 him2 hbase2 hheap2 hl2 ha2
      refine (Meets.calls eng (hGd X2 I μ2 β2 _ vs m1 m2 m3 m4 m5 m6 m7 hcx2 hro2 him2 hB2 hbase2 hheap2 hl2 ha2)).mono ?_
      rintro e w' ⟨x, J, ν, q2, q3, q4, q5, q6, q7, q8⟩
      exact ⟨x, q2, J, ν, q3, q4, q5, q6, q7, q8⟩
    · rintro e w' ⟨x, rfl, J, ν, q1, q2, q3, q4⟩
      exact ⟨x, rfl, J, ν, q1, q2, q3⟩
  · rintro w2 ⟨J, ν, q1, ⟨q2, q3⟩, q4⟩
    obtain ⟨b1, n0, n1, n2, n3, _⟩ := q4.cellAt hE e1 e2 (.inl ⟨b, hkeep q3, rfl⟩ : PtrAt ν r off (.pointer (some ⟨b, off, none⟩)))
    obtain ⟨b2, p0, p1, p2, p3, _⟩ := q4.cellAt hE f1 f2 (.inl ⟨b, hkeep q3, rfl⟩ : PtrAt ν r (off + 1) (.pointer (some ⟨b, off + 1, none⟩)))
    obtain rfl : b = b1 := by simpa using n0
    obtain rfl : b = b2 := by simpa using p0
    exact ⟨n2, p2, n3, p3⟩
  · rintro e w' ⟨rfl, w2, ⟨J, ν, q1, ⟨q2, q3⟩, q4⟩, rfl⟩
    have q5 : Sim X 0 J ν st4 a w2.drew := q4.grown ⟨rfl, rfl, rfl, Nat.le_refl _, fun k hk _ => rfl⟩
    obtain ⟨b1, n0, _, _, _, n4⟩ := q5.cellAt hE e1 e2 (.inl ⟨b, hkeep q3, rfl⟩ : PtrAt ν r off (.pointer (some ⟨b, off, none⟩)))
    obtain rfl : b = b1 := by simpa using n0
    have s6 := n4 .u32 1
    have f3 : (cs1.set off (.p (.int .u32 1)))[off + 1]? = some (.p (.int .i32 1)) := by
      rw [List.getElem?_set_ne (by omega)]
      exact f2
    obtain ⟨b2, p0, _, _, _, p4⟩ := s6.cellAt hE (by simp [setOb, look_cons]) f3 (.inl ⟨b, hkeep q3, rfl⟩ : PtrAt ν r (off + 1) (.pointer (some ⟨b, off + 1, none⟩)))
    obtain rfl : b = b2 := by simpa using p0
    have s7 := p4 .i32 0
    exact ⟨_, J, ν, rfl, ⟨#[], rfl, rfl, fun i v hv => by simp at hv⟩, q1, ⟨q2, q3⟩, s7⟩
end
end Go.Dip
end

/- Library functions as the evaluator's callees, third part: more of strings, of strconv; functions that the model answers. -/
section
set_option linter.unusedVariables false
set_option linter.unusedSimpArgs false
namespace Go.Dip
open Go.RowKit

section
variable {P : Program} {E : Env} {tB : TypeId} {W0 : World}
def indexC (vs : List PV) : Bool := decide ((strOf (vs.getD 0 .any)).length < 4294967281)
def indexX (vs : List PV) : GV := .pv (.int .i64 (Lib.index (strOf (vs.getD 0 .any)) (strOf (vs.getD 1 .any))))
def pureG (ks : List AK) (c : List PV → Bool) (x : List PV → GV) : PureG := fun vs R K => bif fitArgs ks vs then (bif c vs then K (x vs) else none) else none
theorem lib_index {f : FuncId} (en : Enters P f) {g : Nat} {m : Int} (hm : W0.cell? ⟨g, 0, none⟩ = some (.int .i64 m))
    (hc : ∀ (s sub : ByteArray) (m : Int) (w : World), s.size < 4294967281 → w.cell? ⟨g, 0, none⟩ = some (.int .i64 m) → Calls P f #[.string s, .string sub] w fun e w' => e = .returned (.int .i64 (Lib.index s.data.toList sub.data.toList)) ∧ w' = w) :
    PureOk P E W0 f (pureG [.str, .str] indexC indexX) := by
  refine PureOk.lib (ks := [.str, .str]) (c := indexC) (x := indexX) (fun vs R K => rfl) en fun vs hv hcd => ?_
  obtain ⟨a, b, rfl, h1, h2⟩ := fit2 hv
  obtain ⟨s, rfl⟩ := fitStr h1
  obtain ⟨t, rfl⟩ := fitStr h2
  have hcd : s.length < 4294967281 := of_decide_eq_true hcd
  refine PureFnC.str2 rfl fun w hb => (hc ⟨s.toArray⟩ ⟨t.toArray⟩ m w (by rw [bsize]; exact hcd) (cell_below hb hm)).mono ?_
  rintro e w' ⟨rfl, rfl⟩
  exact ⟨_, rfl, fun I => .int _ _, Below.refl _ _⟩
def indexAnyC (vs : List PV) : Bool := decide ((strOf (vs.getD 0 .any)).length < 4294967281) && (decide ((strOf (vs.getD 1 .any)).length < 4294967281) && (isAscii (strOf (vs.getD 0 .any)) && isAscii (strOf (vs.getD 1 .any))))
def indexAnyX (vs : List PV) : GV := .pv (.int .i64 (Lib.indexAny (strOf (vs.getD 0 .any)) (strOf (vs.getD 1 .any))))
theorem lib_indexAny {f : FuncId} (en : Enters P f)
    (hc : ∀ (s chars : ByteArray) (w : World), s.size < 4294967281 → chars.size < 4294967281 → (∀ (j : Nat) b, s.data.toList[j]? = some b → b.toNat < 128) → (∀ (j : Nat) b, chars.data.toList[j]? = some b → b.toNat < 128) →
      Calls P f #[.string s, .string chars] w fun e w' => e = .returned (.int .i64 (Lib.indexAny s.data.toList chars.data.toList)) ∧ Below w.heap.size w w') :
    PureOk P E W0 f (pureG [.str, .str] indexAnyC indexAnyX) := by
  refine PureOk.lib (ks := [.str, .str]) (c := indexAnyC) (x := indexAnyX) (fun vs R K => rfl) en fun vs hv hcd => ?_
  obtain ⟨a, b, rfl, h1, h2⟩ := fit2 hv
  obtain ⟨s, rfl⟩ := fitStr h1
  obtain ⟨t, rfl⟩ := fitStr h2
  simp only [indexAnyC, Bool.and_eq_true, decide_eq_true_eq] at hcd
  obtain ⟨c1, c2, c3, c4⟩ := hcd
  refine PureFnC.str2 rfl fun w hb => (hc ⟨s.toArray⟩ ⟨t.toArray⟩ w (by rw [bsize]; exact c1) (by rw [bsize]; exact c2) (ascii_at c3) (ascii_at c4)).mono ?_
  rintro e w' ⟨rfl, h⟩
  exact ⟨_, rfl, fun I => .int _ _, h⟩
def parseC (vs : List PV) : Bool := decide ((strOf (vs.getD 0 .any)).length ≤ 281474976710656) && (decide (intOf (vs.getD 1 .any) = 10) && decide (intOf (vs.getD 2 .any) = 16))
def parseX (vs : List PV) : GV := match Lib.parseUintB 16 (strOf (vs.getD 0 .any)) with
  | .ok u => .tup [.p (.int .u64 u), .p .nilif]
  | .range => .tup [.p (.int .u64 65535), .p .someif]
  | _ => .tup [.p (.int .u64 0), .p .someif]
theorem parseX_keys (vs : List PV) : (parseX vs).keys = [] := by
  unfold parseX
  split <;> simp [GV.keys, CV.keys]
theorem lib_parseUint {f : FuncId} (en : Enters P f)
    (ho : ∀ (s : ByteArray) (u : Nat) (w : World), s.size ≤ 9223372036854775806 → Lib.parseUintB 16 s.data.toList = .ok u → Calls P f #[.string s, .int .i64 10, .int .i64 16] w fun e w' => e = .returned (.tuple #[.int .u64 u, .nilIface]) ∧ Below w.heap.size w w')
    (hs : ∀ (s : ByteArray) (w : World), Below W0.heap.size W0 w → s.size ≤ 281474976710656 → (Lib.parseUintB 16 s.data.toList ≠ .range ∧ ∀ u, Lib.parseUintB 16 s.data.toList ≠ .ok u) → Calls P f #[.string s, .int .i64 10, .int .i64 16] w fun e w' => (∃ t v, e = .returned (.tuple #[.int .u64 0, .iface t v])) ∧ Below w.heap.size w w')
    (hr : ∀ (s : ByteArray) (w : World), Below W0.heap.size W0 w → s.size ≤ 281474976710656 → Lib.parseUintB 16 s.data.toList = .range → Calls P f #[.string s, .int .i64 10, .int .i64 16] w fun e w' => (∃ t v, e = .returned (.tuple #[.int .u64 65535, .iface t v])) ∧ Below w.heap.size w w') :
    PureOk P E W0 f (pureG [.str, .int .i64, .int .i64] parseC parseX) := by
  refine PureOk.lib (ks := [.str, .int .i64, .int .i64]) (c := parseC) (x := parseX) (fun vs R K => rfl) en fun vs hv hcd => ?_
  obtain ⟨a, b, c, rfl, h1, h2, h3⟩ := fit3 hv
  obtain ⟨s, rfl⟩ := fitStr h1
  obtain ⟨m, rfl⟩ := fitInt h2
  obtain ⟨n, rfl⟩ := fitInt h3
  simp only [parseC, Bool.and_eq_true, decide_eq_true_eq] at hcd
  obtain ⟨c1, c2, c3⟩ := hcd
  have c1 : s.length ≤ 281474976710656 := c1
  have c2 : m = 10 := c2
  have c3 : n = 16 := c3
  subst c2 c3
  refine PureFnC.lib (parseX_keys _) fun {I w aa} _ hb hl ha => ?_
  have e0 := repStr (ha 0 (by simp))
  have e1 := repInt (ha 1 (by simp))
  have e2 := repInt (ha 2 (by simp))
  have has : aa = #[.string ⟨s.toArray⟩, .int .i64 10, .int .i64 16] := by
    obtain ⟨l⟩ := aa
    match l, hl with
    | [x, y, z], _ =>
      simp at e0 e1 e2
      rw [e0, e1, e2]
  rw [has]
  have hx : parseX [.str s, .int .i64 10, .int .i64 16] = match Lib.parseUintB 16 s with
    | .ok u => .tup [.p (.int .u64 u), .p .nilif]
    | .range => .tup [.p (.int .u64 65535), .p .someif]
    | _ => .tup [.p (.int .u64 0), .p .someif] := rfl
  rw [hx]
  cases hp : Lib.parseUintB 16 s with
  | ok u =>
    refine (ho ⟨s.toArray⟩ u w (by rw [bsize]; omega) hp).mono ?_
    rintro e w' ⟨rfl, h⟩
    exact ⟨_, rfl, repTup2 (.int _ _) .nilif, h⟩
  | range =>
    refine (hr ⟨s.toArray⟩ w hb (by rw [bsize]; omega) hp).mono ?_
    rintro e w' ⟨⟨t, v, rfl⟩, h⟩
    exact ⟨_, rfl, repTup2 (.int _ _) (.someif _ _), h⟩
  | _ =>
    refine (hs ⟨s.toArray⟩ w hb (by rw [bsize]; omega) ⟨fun e => (by cases hp.symm.trans e), fun v e => (by cases hp.symm.trans e)⟩).mono ?_
    rintro e w' ⟨⟨t, v, rfl⟩, h⟩
    exact ⟨_, rfl, repTup2 (.int _ _) (.someif _ _), h⟩

/-! Functions that the model answers. -/
theorem PureOk.extern {f : FuncId} {ks : List AK} {c : List PV → Bool} {x : List PV → GV} (hk : ∀ vs, (x vs).keys = [])
    (h : ∀ vs, fitArgs ks vs = true → c vs = true → ∀ (I : Mem) (w : World) (aa : Array Value), aa.size = vs.length → (∀ i, i < vs.length → RepP I (vs.getD i .any) (aa.getD i undef)) → ∃ y, (callFunc f aa).run P w = .ok (.value y) w ∧ RepG I (fun _ => none) (x vs) y) :
    PureOk P E W0 f (pureG ks c x) := by
  refine ⟨fun vs R K => ?_, fun vs v hv => ?_⟩
  · unfold pureG
    cases fitArgs ks vs
    · rfl
    · cases c vs <;> rfl
  · unfold pureG at hv
    cases h1 : fitArgs ks vs
    · rw [h1] at hv; cases hv
    · cases h2 : c vs
      · rw [h1, h2] at hv; cases hv
      · rw [h1, h2] at hv
        simp only [cond_true, Option.some.injEq] at hv
        subst hv
        refine ⟨hk vs, fun X I w aa hX hW him hB hWB hb hl ha => ?_⟩
        obtain ⟨y, h3, h4⟩ := h vs h1 h2 I w aa hl ha
        exact .inr ⟨y, w, h3, y, I, rfl, h4, MemLe.refl I, fun b o u hu => .inl hu, him, Below.refl _ _⟩
def countC (vs : List PV) : Bool := true
def countX (vs : List PV) : GV := .pv (.int .i64 (Lib.countByte (strOf (vs.getD 0 .any)) (intOf (vs.getD 1 .any)).toNat.toUInt8))
theorem lib_countString {f : FuncId} (h : ∀ (s : ByteArray) (c : Int) (w : World), (callFunc f #[.string s, .int .u8 c]).run P w = .ok (.value (.int .i64 (Lib.countByte s.data.toList c.toNat.toUInt8))) w) : PureOk P E W0 f (pureG [.str, .int .u8] countC countX) := by
  refine PureOk.extern (fun vs => by simp [countX, GV.keys, CV.keys]) fun vs hv _ I w aa hl ha => ?_
  obtain ⟨a, b, rfl, h1, h2⟩ := fit2 hv
  obtain ⟨s, rfl⟩ := fitStr h1
  obtain ⟨m, rfl⟩ := fitInt h2
  have e0 := repStr (ha 0 (by simp))
  have e1 := repInt (ha 1 (by simp))
  have has : aa = #[.string ⟨s.toArray⟩, .int .u8 m] := by
    obtain ⟨l⟩ := aa
    match l, hl with
    | [x, y], _ =>
      simp at e0 e1
      rw [e0, e1]
  rw [has]
  exact ⟨_, h _ _ _, RepP.int _ _⟩
/-! A call by plain values whose result is a row of its own. -/
theorem PureFn.row {f : FuncId} {args : List PV} {e : TypeId} {es : List PV} (he : Nat.beq e E.tb = false) (en : Enters P f)
    (hc : ∀ (I : Mem) (w : World) (aa : Array Value), Below W0.heap.size W0 w → aa.size = args.length → (∀ i, i < args.length → RepP I (args.getD i .any) (aa.getD i undef)) →
      Calls P f aa w fun e' w' => ∃ x xs, e' = .returned x ∧ w'.ownsRow w.heap.size e (E.sz e) x es.length xs ∧ RowRep I (E.sz e) es xs ∧ Below w.heap.size w w') :
    PureFn P E W0 f args (.pv (.sl (E.sz e) es)) := by
  refine ⟨rfl, fun X I w aa hX hW him hB hWB hb hl ha => Meets.of en ((hc I w aa hb hl ha).mono ?_)⟩
  rintro e' w' ⟨x, xs, rfl, h1, h2, h3⟩
  have heT : e ≠ E.tb := fun h => by rw [h] at he; simp at he
  have him' : ImmOk X I w' := him.below h3
  rcases h1.2 with ⟨rfl, h4⟩ | ⟨g, cap, cur, rfl, g1, g2, g3, g4, g5, g6⟩
  · have hes : es = [] := List.eq_nil_of_length_eq_zero h4
    subst hes
    exact ⟨_, I, rfl, .nilsl _ none, MemLe.refl I, fun b o u hu => .inl hu, him', h3⟩
  · have hfree : ∀ p, I g p = none := by
      intro p
      cases hp : I g p with
      | none => rfl
      | some u => have := him.lt hp; omega
    let J : Mem := fun b o => if b = g then (if o < es.length * E.sz e then xs[o]? else none) else I b o
    have hIJ : MemLe I J := by
      intro b o v hv
      show (if b = g then _ else I b o) = some v
      rw [if_neg (fun e => by rw [e, hfree] at hv; cases hv)]
      exact hv
    have hJ : ∀ i j, i < es.length → j < E.sz e → J g (0 + (i * E.sz e + j)) = some (xs.getD (i * E.sz e + j) undef) := by
      intro i j hi hj
      have hk : i * E.sz e + j < es.length * E.sz e := by
        have : (i + 1) * E.sz e ≤ es.length * E.sz e := Nat.mul_le_mul_right _ hi
        rw [Nat.add_mul] at this
        omega
      show (if g = g then (if 0 + (i * E.sz e + j) < es.length * E.sz e then xs[0 + (i * E.sz e + j)]? else none) else _) = _
      rw [Nat.zero_add, if_pos rfl, if_pos hk, List.getD_eq_getElem?_getD, List.getElem?_eq_getElem (by rw [h1.1]; exact hk)]
      rfl
    refine ⟨_, J, rfl, ?_, hIJ, fun b o u hu => ?_, ?_, h3⟩
    · exact RepP.sl (E.sz e) es g 0 cap (fun i j => xs.getD (i * E.sz e + j) undef) g3 (fun i hi => (h2 i hi).1) ⟨hJ, fun i j hi hj => ((h2 i hi).2 j hj).2⟩ (fun i j hi hj => ((h2 i hi).2 j hj).1.mono hIJ)
    · have hu : (if b = g then (if o < es.length * E.sz e then xs[o]? else none) else I b o) = some u := hu
      by_cases e1 : b = g
      · exact .inr (e1 ▸ g1)
      · rw [if_neg e1] at hu
        exact .inl hu
    · intro b o u hu
      have hu : (if b = g then (if o < es.length * E.sz e then xs[o]? else none) else I b o) = some u := hu
      by_cases e1 : b = g
      · subst e1
        rw [if_pos rfl] at hu
        by_cases ho : o < es.length * E.sz e
        · rw [if_pos ho] at hu
          have hcur : cur[o]? = some u := by
            rw [← g6, List.getElem?_take_of_lt ho, Array.getElem?_toList] at hu
            exact hu
          have hz : 0 < E.sz e := by
            rcases Nat.eq_zero_or_pos (E.sz e) with h | h
            · rw [h] at ho; simp at ho
            · exact h
          have hi : o / E.sz e < es.length := (Nat.div_lt_iff_lt_mul hz).2 ho
          have hone := ((h2 _ hi).2 _ (Nat.mod_lt o hz)).2
          have e2 : o / E.sz e * E.sz e + o % E.sz e = o := by rw [Nat.mul_comm]; exact Nat.div_add_mod o _
          rw [e2, List.getD_eq_getElem?_getD, hu] at hone
          exact .inl ⟨hone, cur, e, (0, 0), g2, hcur, .inr (by rw [hX]; exact heT)⟩
        · rw [if_neg ho] at hu; cases hu
      · rw [if_neg e1] at hu
        exact him' b o u hu
end
end Go.Dip
end

/- The closed facts that a row asks, one by one. -/
section
namespace Go.Dip
theorem facts_of {P : Program} {f : FuncId} {fn : Func} {s : ChangeSpec} {c : OpenClaim}
    (k1 : c.wf (OpenSpec.ofChange s) = true)
    (k2 : laidOutB P = true)
    (k3 : mapsRowed P = true)
    (k4 : fn.params.all (P.readableRec ·) = true)
    (k5 : namedTie P c.named s.vars = true)
    (k6 : (c.stops == []) = true)
    (k7 : (P.stops == []) = true)
    (k8 : (c.knobs == []) = true)
    (k9 : (P.stopKnobs == []) = true)
    (k10 : (c.inPlace == P.inPlace f) = true)
    (k11 : (c.unfollowed == P.unfollowed f) = true)
    (k12 : (c.recurses == P.recurses f) = true)
    (k13 : (c.named == P.varsNamed f) = true)
    (k14 : (c.maps == (fn.params.toList ++ s.plain.varTypes P).any (P.mapsRec ·)) = true)
    (k15 : (c.ifaces == (fn.params.toList ++ s.plain.varTypes P).any (P.ifacesRec ·)) = true)
    (k16 : (c.mapsOut == P.mapsAmong fn.resultTypes.toList) = true)
    (k17 : (c.loops == (fn.params.toList ++ s.plain.varTypes P).any (P.loopsFrom ·)) = true)
    (k18 : (c.wideKeys == (fn.params.toList ++ s.plain.varTypes P ++ fn.resultTypes.toList).any (P.wideKeysFrom ·)) = true)
    (k19 : s.vars.all (P.varReadable ·) = true)
    (k20 : fn.resultTypes.all (fun t => P.readableRec t && decide (t < P.types.size)) = true)
    (k21 : (c.ifacesOut == fn.resultTypes.toList.any (P.ifacesRec ·)) = true)
    (k22 : (c.loopsOut == fn.resultTypes.toList.any (P.loopsFrom ·)) = true)
    (k23 : (c.plainKeys == P.plainKeys) = true)
    (k24 : c.shortTexts.isNone = true)
    (k25 : P.stopsHeard = true)
    (k26 : P.mayEnter = true)
    (k27 : (c.lifted == P.liftsFinal) = true)
    (k28 : (P.make == some c.make) = true)
    (k29 : (c.kinds == (if c.domain.isEmpty then [] else fn.params.toList.map fun t => match P.underlying t with | some (.int k) => some k | _ => none)) = true)
    (k30 : (c.pinned == c.pinnedBy) = true)
    (k31 : (c.veiled == (fn.params.toList ++ s.plain.varTypes P ++ fn.resultTypes.toList).any (P.veiledRec ·)) = true)
    (k32 : c.veiledFits P fn.params.toList (fn.params.toList ++ s.plain.varTypes P ++ fn.resultTypes.toList) = true) : joinedFacts P f fn s c = true := by
  simp only [joinedFacts, Bool.and_eq_true]
  exact ⟨⟨⟨⟨⟨⟨⟨⟨⟨⟨⟨⟨⟨⟨⟨⟨⟨⟨⟨⟨⟨⟨⟨⟨⟨⟨⟨⟨⟨⟨⟨k1, k2⟩, k3⟩, k4⟩, k5⟩, k6⟩, k7⟩, k8⟩, k9⟩, k10⟩, k11⟩, k12⟩, k13⟩, k14⟩, k15⟩, k16⟩, k17⟩, k18⟩, k19⟩, k20⟩, k21⟩, k22⟩, k23⟩, k24⟩, k25⟩, k26⟩, k27⟩, k28⟩, k29⟩, k30⟩, k31⟩, k32⟩
end Go.Dip
end
