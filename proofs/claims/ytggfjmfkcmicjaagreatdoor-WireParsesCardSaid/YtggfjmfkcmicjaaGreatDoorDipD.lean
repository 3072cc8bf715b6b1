/- Joined by program out of: LibPlain, CoreLib, Ty, LibDefs, LibLay, Lib. -/
import Derived.Test.YtggfjmfkcmicjaaGreatDoorDipC
import Derived.Lib.IndexMore
import Derived.Lib.ItoaNum
import Derived.Lib.AtoiAll
import Derived.Lib.Join
import Derived.Lib.Replace
import Derived.Lib.RuneCount
import Derived.Lib.SlTrimSet
import Derived.Lib.Strings
import Derived.Lib.ValidU
import Derived.Lib.LaidTab
import Derived.Sort.Grow
import Derived.Lib.ConvBytes
import Derived.Laws.RangeString
import Derived.Deep.Draws
import Derived.Test.YtggfjmfkcmicjaaGreatDoorProg
import Derived.KernelRfl
import Derived.Shelf.LaysM
import Derived.Shelf.LaysC
import Derived.Shelf.Strings.BuilderK
import Derived.Shelf.Strings.OnBuilder
import Derived.Shelf.Strings.Replace
import Derived.Shelf.Strings.Cut
import Derived.Shelf.Strings.SlTrimAscii
import Derived.Shelf.Small.Wraps
import Derived.Shelf.Small.Strs
import Derived.Shelf.Strings.Prefix
import Derived.Shelf.Strconv.Itoa3
import Derived.Shelf.Strconv.AtoiAll
import Derived.Shelf.Utf8.RuneCount
import Derived.Shelf.Unicode.ValidAny
set_option linter.all false
/- What the library's functions give, plainly, as the evaluator's callees are told. -/
section
set_option linter.unusedVariables false
namespace Go.Dip
variable {R : Type}
abbrev Bytes := List UInt8
/-! Tests, by name. -/
def eqI (a b : Int) : Bool := decide (a = b)
def ltI (a b : Int) : Bool := decide (a < b)
def leI (a b : Int) : Bool := decide (a ≤ b)
def gtI (a b : Int) : Bool := decide (a > b)
def geI (a b : Int) : Bool := decide (a ≥ b)
def eqS (a b : Bytes) : Bool := decide (a = b)
def leN (a b : Nat) : Bool := decide (a ≤ b)
def lCut (s sep : Bytes) (K : Bytes → Bytes → Bool → Option R) : Option R := bif decide (s.length < 4294967281) then K (Lib.cut s sep).1 (Lib.cut s sep).2.1 (Lib.cut s sep).2.2 else none
def atoiOk (s : Bytes) : Bool := match Lib.atoiAll s with
  | .ok _ => true
  | _ => false
def atoiVal (s : Bytes) : Int := match Lib.atoiAll s with
  | .ok v => v
  | .range => Lib.atoiSat s
  | _ => 0
def lAtoi (s : Bytes) (K : Int → PV → Option R) : Option R := bif decide (s.length ≤ 281474976710656) then K (atoiVal s) (bif atoiOk s then .nilif else .someif) else none
def lItoa (n : Int) (K : Bytes → Option R) : Option R := bif decide (-9223372036854775808 ≤ n) && decide (n ≤ 9223372036854775807) then K (Lib.itoa n) else none
def BLIM : Nat := 140737488355328
def lWriteString (s b : Bytes) (K : Int → PV → Bytes → Option R) : Option R := bif decide (b.length + s.length ≤ BLIM) then K ((s.length : Nat) : Int) .nilif (b ++ s) else none
def lWriteByte (c : Int) (b : Bytes) (K : PV → Bytes → Option R) : Option R := bif decide (b.length + 1 ≤ BLIM) && (decide (0 ≤ c) && decide (c < 256)) then K .nilif (b ++ [UInt8.ofNat c.toNat]) else none
def lString (b : Bytes) (K : Bytes → Bytes → Option R) : Option R := K b b
def lJoin (es : List PV) (sep : Bytes) (K : Bytes → Option R) : Option R :=
  bif es.all isStr && (decide (es.length ≤ BLIM) && decide ((Lib.join (es.map strOf) sep).length ≤ BLIM)) then K (Lib.join (es.map strOf) sep) else none
def isAscii (cs : Bytes) : Bool := cs.all fun b => decide (b.toNat < 128)
def lTrim (s cs : Bytes) (K : Bytes → Option R) : Option R := bif decide (s.length ≤ LIM) && (decide (cs.length < 4294967281) && isAscii cs) then K (Lib.trimS s cs) else none
def lTrimLeft (s cs : Bytes) (K : Bytes → Option R) : Option R := bif decide (s.length ≤ LIM) && (decide (cs.length < 4294967281) && isAscii cs) then K (Lib.trimLeftS s cs) else none
def lValid (s : Bytes) (K : Bool → Option R) : Option R := bif decide (s.length ≤ LIM) then K (Lib.validD s) else none
def lReplaceAll (s old new : Bytes) (K : Bytes → Option R) : Option R :=
  bif decide (s.length < 4294967281) && (decide (1 ≤ old.length) && decide (s.length + Lib.count s old * new.length ≤ BLIM)) then K (Lib.replaceAll s old new) else none
def lRuneCount (s : Bytes) (K : Int → Option R) : Option R := bif decide (s.length ≤ LIM) then K ((Lib.runeCountL s : Nat) : Int) else none
def lHasPrefix (s p : Bytes) (K : Bool → Option R) : Option R := K (Lib.hasPrefix s p)
def lCutPrefix (s p : Bytes) (K : Bytes → Bool → Option R) : Option R := K (Lib.trimPrefix s p) (Lib.hasPrefix s p)
end Go.Dip
end
/- Library functions aa the evaluator's callees, by what the shelf's contracts say of them. -/
section
set_option linter.unusedVariables false
set_option linter.unusedSimpArgs false
namespace Go.Dip
open Go.RowKit
section
variable {P : Program} {E : Env} {tB : TypeId} {W0 : World}
/-! The world aa it was laid. -/
theorem cell_below {w w' : World} {a : Addr} {v : Value} (hb : Below w.heap.size w w') (h : w.cell? a = some v) : w'.cell? a = some v := by
  have hlt : a.block < w.heap.size := by
    unfold World.cell? at h
    cases hh : w.heap[a.block]? with
    | none => simp [hh] at h
    | some o => exact (Array.getElem?_eq_some_iff.1 hh).1
  unfold World.cell? at h ⊢
  rw [hb.block _ hlt]
  exact h
theorem var_below {w w' : World} {n : String} {cs : Array Value} (hb : Below w.heap.size w w') (h : w.var? P n = some cs) : w'.var? P n = some cs := by
  unfold World.var? at h ⊢
  cases hg : P.globalNamed n with
  | none => simp [hg] at h
  | some g =>
    simp only [hg, Option.bind_some] at h ⊢
    have hlt : g < w.heap.size := by
      cases hh : w.heap[g]? with
      | none => simp [hh] at h
      | some o => exact (Array.getElem?_eq_some_iff.1 hh).1
    rw [hb.block _ hlt]
    exact h
theorem tab_below {w w' : World} {n : String} {k : IntKind} {zs : List Int} (hb : Below w.heap.size w w') (h : Lib.TabIs P w n k zs) : Lib.TabIs P w' n k zs := var_below hb h
theorem below_drewN0 (w : World) (n : Nat) : Below w.heap.size w (w.drewN n) := ⟨rfl, rfl, rfl, Nat.le_refl _, fun _ _ => rfl⟩
theorem below_append (w w' : World) (h1 : w'.os = w.os) (h2 : w'.tape = w.tape) (h3 : w'.output = w.output) (os : Array Obj) (h4 : w'.heap = w.heap ++ os) : Below w.heap.size w w' :=
  ⟨h1, h2, h3, by rw [h4]; simp, fun k hk => by rw [h4, Array.getElem?_append_left hk]⟩
theorem below_push (w w' : World) (h1 : w'.os = w.os) (h2 : w'.tape = w.tape) (h3 : w'.output = w.output) (o : Obj) (h4 : w'.heap = w.heap.push o) : Below w.heap.size w w' :=
  ⟨h1, h2, h3, by rw [h4]; simp, fun k hk => by rw [h4, Array.getElem?_push_lt hk, Array.getElem?_eq_getElem hk]⟩
/-! Calls by plain values. -/
theorem ImmOk.below {X : Cx} {I : Mem} {w w' : World} (h : ImmOk X I w) (hb : Below w.heap.size w w') : ImmOk X I w' := by
  intro b o v hv
  obtain ⟨arr, T, fz, h1, h2, h3⟩ := h b o v hv
  exact ⟨arr, T, fz, by rw [hb.block b (Array.getElem?_eq_some_iff.1 h1).1]; exact h1, h2, h3⟩
theorem PureFn.lib {f : FuncId} {args : List PV} {v : GV} (hk : v.keys = [])
    (h : ∀ {I : Mem} {w : World} {aa : Array Value}, (∀ b o u, I b o = some u → w.cell? ⟨b, o, none⟩ = some u) → Below W0.heap.size W0 w → aa.size = args.length → (∀ i, i < args.length → RepP I (args.getD i .any) (aa.getD i undef)) →
      Calls P f aa w fun e w' => ∃ x, e = .returned x ∧ RepG I (fun _ => none) v x ∧ Below w.heap.size w w') : PureFn P E W0 f args v := by
  refine ⟨hk, fun X I w aa hE hW him hB hWB hb hl ha => ?_⟩
  refine (h (I := I) (fun b o u hu => ?_) hb hl ha).mono ?_
  · obtain ⟨arr, T, fz, h1, h2, _⟩ := him b o u hu
    simp [World.cell?, h1, h2]
  · rintro e w' ⟨x, rfl, h1, h2⟩
    exact ⟨x, I, rfl, h1, MemLe.refl I, fun b o u hu => .inl hu, him.below h2, h2⟩
theorem PureOk.lib {f : FuncId} {ks : List AK} {c : List PV → Bool} {x : List PV → GV} {G : PureG} (hG : ∀ vs R K, G vs R K = bif fitArgs ks vs then (bif c vs then K (x vs) else none) else none) (en : Enters P f)
    (h : ∀ vs, fitArgs ks vs = true → c vs = true → PureFn P E W0 f vs (x vs)) : PureOk P E W0 f G := by
  refine ⟨en, fun vs R K => ?_, fun vs v hv => ?_⟩
  · rw [hG, hG]
    cases fitArgs ks vs
    · rfl
    · cases c vs <;> rfl
  · rw [hG] at hv
    cases h1 : fitArgs ks vs
    · rw [h1] at hv; cases hv
    · cases h2 : c vs
      · rw [h1, h2] at hv; cases hv
      · rw [h1, h2] at hv
        simp only [cond_true, Option.some.injEq] at hv
        subst hv
        exact h vs h1 h2
theorem repStr {I : Mem} {s : Bytes} {x : Value} (h : RepP I (.str s) x) : x = .string ⟨s.toArray⟩ := by cases h; rfl
theorem repInt {I : Mem} {k : IntKind} {n : Int} {x : Value} (h : RepP I (.int k n) x) : x = .int k n := by cases h; rfl
theorem fit1 {k : AK} {vs : List PV} (h : fitArgs [k] vs = true) : ∃ a, vs = [a] ∧ fitA k a = true := by
  match vs, h with
  | [a], h => simp only [fitArgs, Bool.and_true] at h; exact ⟨a, rfl, h⟩
  | [], h => simp [fitArgs] at h
  | _ :: _ :: _, h => simp [fitArgs] at h
theorem fit2 {k l : AK} {vs : List PV} (h : fitArgs [k, l] vs = true) : ∃ a b, vs = [a, b] ∧ fitA k a = true ∧ fitA l b = true := by
  match vs, h with
  | [a, b], h => simp only [fitArgs, Bool.and_true, Bool.and_eq_true] at h; exact ⟨a, b, rfl, h.1, h.2⟩
  | [], h => simp [fitArgs] at h
  | [_], h => simp [fitArgs] at h
  | _ :: _ :: _ :: _, h => simp [fitArgs] at h
theorem fit3 {k l m : AK} {vs : List PV} (h : fitArgs [k, l, m] vs = true) : ∃ a b c, vs = [a, b, c] ∧ fitA k a = true ∧ fitA l b = true ∧ fitA m c = true := by
  match vs, h with
  | [a, b, c], h => simp only [fitArgs, Bool.and_true, Bool.and_eq_true] at h; exact ⟨a, b, c, rfl, h.1, h.2.1, h.2.2⟩
  | [], h => simp [fitArgs] at h
  | [_], h => simp [fitArgs] at h
  | [_, _], h => simp [fitArgs] at h
  | _ :: _ :: _ :: _ :: _, h => simp [fitArgs] at h
theorem fitStr {a : PV} (h : fitA .str a = true) : ∃ s, a = .str s := by
  cases a with
  | str s => exact ⟨s, rfl⟩
  | _ => simp [fitA, isStr] at h
theorem fitInt {k : IntKind} {a : PV} (h : fitA (.int k) a = true) : ∃ n, a = .int k n := by
  refine ⟨intOf a, isInt_inv h⟩
theorem fitSl {c : Nat} {a : PV} (h : fitA (.sl c) a = true) : ∃ es, a = .sl c es := ⟨slOf a, isSl_inv h⟩
theorem PureFn.str1 {f : FuncId} {s : Bytes} {v : GV} (hk : v.keys = []) (h : ∀ w, Below W0.heap.size W0 w → Calls P f #[.string ⟨s.toArray⟩] w fun e w' => ∃ x, e = .returned x ∧ (∀ I, RepG I (fun _ => none) v x) ∧ Below w.heap.size w w') : PureFn P E W0 f [.str s] v := by
  refine PureFn.lib hk fun {I w aa} _ hb hl ha => ?_
  have h0 := repStr (ha 0 (by simp))
  have : aa = #[.string ⟨s.toArray⟩] := by
    apply Array.ext
    · simpa using hl
    · intro i h1 h2
      have : i = 0 := by simp at h2; omega
      subst this
      simpa [Array.getD, h1] using h0
  rw [this]
  exact (h w hb).mono fun e w' ⟨x, h1, h2, h3⟩ => ⟨x, h1, h2 I, h3⟩
theorem PureFn.str2 {f : FuncId} {s t : Bytes} {v : GV} (hk : v.keys = []) (h : ∀ w, Below W0.heap.size W0 w → Calls P f #[.string ⟨s.toArray⟩, .string ⟨t.toArray⟩] w fun e w' => ∃ x, e = .returned x ∧ (∀ I, RepG I (fun _ => none) v x) ∧ Below w.heap.size w w') : PureFn P E W0 f [.str s, .str t] v := by
  refine PureFn.lib hk fun {I w aa} _ hb hl ha => ?_
  have h0 := repStr (ha 0 (by simp))
  have h1 := repStr (ha 1 (by simp))
  have : aa = #[.string ⟨s.toArray⟩, .string ⟨t.toArray⟩] := by
    apply Array.ext
    · simpa using hl
    · intro i g1 g2
      match i, g2 with
      | 0, _ => simpa [Array.getD, g1] using h0
      | 1, _ => simpa [Array.getD, g1] using h1
      | i + 2, g => exact absurd g (by simp)
  rw [this]
  exact (h w hb).mono fun e w' ⟨x, h1, h2, h3⟩ => ⟨x, h1, h2 I, h3⟩
theorem PureFn.str3 {f : FuncId} {s t u : Bytes} {v : GV} (hk : v.keys = []) (h : ∀ w, Below W0.heap.size W0 w → Calls P f #[.string ⟨s.toArray⟩, .string ⟨t.toArray⟩, .string ⟨u.toArray⟩] w fun e w' => ∃ x, e = .returned x ∧ (∀ I, RepG I (fun _ => none) v x) ∧ Below w.heap.size w w') : PureFn P E W0 f [.str s, .str t, .str u] v := by
  refine PureFn.lib hk fun {I w aa} _ hb hl ha => ?_
  have h0 := repStr (ha 0 (by simp))
  have h1 := repStr (ha 1 (by simp))
  have h2 := repStr (ha 2 (by simp))
  have : aa = #[.string ⟨s.toArray⟩, .string ⟨t.toArray⟩, .string ⟨u.toArray⟩] := by
    apply Array.ext
    · simpa using hl
    · intro i g1 g2
      match i, g2 with
      | 0, _ => simpa [Array.getD, g1] using h0
      | 1, _ => simpa [Array.getD, g1] using h1
      | 2, _ => simpa [Array.getD, g1] using h2
      | i + 3, g => exact absurd g (by simp)
  rw [this]
  exact (h w hb).mono fun e w' ⟨x, h1, h2, h3⟩ => ⟨x, h1, h2 I, h3⟩
theorem PureFn.int1 {f : FuncId} {k : IntKind} {n : Int} {v : GV} (hk : v.keys = []) (h : ∀ w, Below W0.heap.size W0 w → Calls P f #[.int k n] w fun e w' => ∃ x, e = .returned x ∧ (∀ I, RepG I (fun _ => none) v x) ∧ Below w.heap.size w w') : PureFn P E W0 f [.int k n] v := by
  refine PureFn.lib hk fun {I w aa} _ hb hl ha => ?_
  have h0 := repInt (ha 0 (by simp))
  have : aa = #[.int k n] := by
    apply Array.ext
    · simpa using hl
    · intro i h1 h2
      have : i = 0 := by simp at h2; omega
      subst this
      simpa [Array.getD, h1] using h0
  rw [this]
  exact (h w hb).mono fun e w' ⟨x, h1, h2, h3⟩ => ⟨x, h1, h2 I, h3⟩
theorem bsize (s : Bytes) : (ByteArray.mk s.toArray).size = s.length := by simp [ByteArray.size]
theorem repTup {I : Mem} {vs : List PV} {xs : List Value} (hl : vs.length = xs.length) (h : ∀ i, i < vs.length → RepP I (vs.getD i .any) (xs.getD i undef)) : RepG I (fun _ => none) (.tup (vs.map .p)) (.tuple xs.toArray) := by
  refine ⟨xs.toArray, rfl, by simp [hl], fun i u hu => ?_⟩
  rw [List.getElem?_map] at hu
  obtain ⟨y, hy, rfl⟩ := Option.map_eq_some_iff.1 hu
  have hi : i < vs.length := (List.getElem?_eq_some_iff.1 hy).1
  have := h i hi
  rw [List.getD_eq_getElem?_getD, hy] at this
  rw [agetD]
  exact this
theorem repTup2 {I : Mem} {a b : PV} {x y : Value} (ha : RepP I a x) (hb : RepP I b y) : RepG I (fun _ => none) (.tup [.p a, .p b]) (.tuple #[x, y]) :=
  repTup (vs := [a, b]) (xs := [x, y]) rfl fun i hi => match i, hi with
    | 0, _ => ha
    | 1, _ => hb
    | i + 2, h => absurd h (by simp)
theorem repTup3 {I : Mem} {a b c : PV} {x y z : Value} (ha : RepP I a x) (hb : RepP I b y) (hc : RepP I c z) : RepG I (fun _ => none) (.tup [.p a, .p b, .p c]) (.tuple #[x, y, z]) :=
  repTup (vs := [a, b, c]) (xs := [x, y, z]) rfl fun i hi => match i, hi with
    | 0, _ => ha
    | 1, _ => hb
    | 2, _ => hc
    | i + 3, h => absurd h (by simp)
/-! Strings. -/
theorem lib_cut {f : FuncId} (en : Enters P f) {g : Nat} {m : Int} (hm : W0.cell? ⟨g, 0, none⟩ = some (.int .i64 m))
    (hc : ∀ (s sep : ByteArray) (m : Int) (w : World), s.size < 4294967281 → w.cell? ⟨g, 0, none⟩ = some (.int .i64 m) → Calls P f #[.string s, .string sep] w fun e w' =>
      e = .returned (.tuple #[.string ⟨(Lib.cut s.data.toList sep.data.toList).1.toArray⟩, .string ⟨(Lib.cut s.data.toList sep.data.toList).2.1.toArray⟩, .bool (Lib.cut s.data.toList sep.data.toList).2.2]) ∧ ∃ n, w' = w.drewN n) :
    PureOk P E W0 f (argG [.str, .str] fun vs R K => lCut (strOf (vs.getD 0 .any)) (strOf (vs.getD 1 .any)) (fun r1 r2 r3 => K (GV.tup [CV.p (PV.str r1), CV.p (PV.str r2), CV.p (PV.bool r3)]))) := by
  refine PureOk.lib (ks := [.str, .str]) (c := fun vs => decide ((strOf (vs.getD 0 .any)).length < 4294967281)) (x := fun vs => GV.tup [CV.p (PV.str (Lib.cut (strOf (vs.getD 0 .any)) (strOf (vs.getD 1 .any))).1), CV.p (PV.str (Lib.cut (strOf (vs.getD 0 .any)) (strOf (vs.getD 1 .any))).2.1), CV.p (PV.bool (Lib.cut (strOf (vs.getD 0 .any)) (strOf (vs.getD 1 .any))).2.2)]) (fun vs R K => rfl) en fun vs hv hcd => ?_
  obtain ⟨a, b, rfl, h1, h2⟩ := fit2 hv
  obtain ⟨s, rfl⟩ := fitStr h1
  obtain ⟨t, rfl⟩ := fitStr h2
  have hcd : s.length < 4294967281 := of_decide_eq_true hcd
  refine PureFn.str2 rfl fun w hb => ?_
  refine (hc ⟨s.toArray⟩ ⟨t.toArray⟩ m w (by rw [bsize]; exact hcd) (cell_below hb hm)).mono ?_
  rintro e w' ⟨rfl, n, rfl⟩
  exact ⟨_, rfl, fun I => repTup3 (.str _) (.str _) (.bool _), below_drewN0 w n⟩
theorem lib_prefix {f : FuncId} (en : Enters P f) (hc : ∀ (s p : ByteArray) (w : World), Calls P f #[.string s, .string p] w fun e w' => e = .returned (.bool (Lib.hasPrefix s.data.toList p.data.toList)) ∧ w' = w) :
    PureOk P E W0 f (argG [.str, .str] fun vs R K => lHasPrefix (strOf (vs.getD 0 .any)) (strOf (vs.getD 1 .any)) (fun r1 => K (GV.pv (PV.bool r1)))) := by
  refine PureOk.lib (ks := [.str, .str]) (c := fun vs => true) (x := fun vs => GV.pv (PV.bool (Lib.hasPrefix (strOf (vs.getD 0 .any)) (strOf (vs.getD 1 .any))))) (fun vs R K => rfl) en fun vs hv hcd => ?_
  obtain ⟨a, b, rfl, h1, h2⟩ := fit2 hv
  obtain ⟨s, rfl⟩ := fitStr h1
  obtain ⟨t, rfl⟩ := fitStr h2
  refine PureFn.str2 rfl fun w hb => (hc ⟨s.toArray⟩ ⟨t.toArray⟩ w).mono ?_
  rintro e w' ⟨rfl, rfl⟩
  exact ⟨_, rfl, fun I => .bool _, Below.refl _ _⟩
theorem lib_cutPrefix {f : FuncId} (en : Enters P f) (hc : ∀ (s p : ByteArray) (w : World), Calls P f #[.string s, .string p] w fun e w' => e = .returned (.tuple #[.string ⟨(Lib.trimPrefix s.data.toList p.data.toList).toArray⟩, .bool (Lib.hasPrefix s.data.toList p.data.toList)]) ∧ w' = w) :
    PureOk P E W0 f (argG [.str, .str] fun vs R K => lCutPrefix (strOf (vs.getD 0 .any)) (strOf (vs.getD 1 .any)) (fun r1 r2 => K (GV.tup [CV.p (PV.str r1), CV.p (PV.bool r2)]))) := by
  refine PureOk.lib (ks := [.str, .str]) (c := fun vs => true) (x := fun vs => GV.tup [CV.p (PV.str (Lib.trimPrefix (strOf (vs.getD 0 .any)) (strOf (vs.getD 1 .any)))), CV.p (PV.bool (Lib.hasPrefix (strOf (vs.getD 0 .any)) (strOf (vs.getD 1 .any))))]) (fun vs R K => rfl) en fun vs hv hcd => ?_
  obtain ⟨a, b, rfl, h1, h2⟩ := fit2 hv
  obtain ⟨s, rfl⟩ := fitStr h1
  obtain ⟨t, rfl⟩ := fitStr h2
  refine PureFn.str2 rfl fun w hb => (hc ⟨s.toArray⟩ ⟨t.toArray⟩ w).mono ?_
  rintro e w' ⟨rfl, rfl⟩
  exact ⟨_, rfl, fun I => repTup2 (.str _) (.bool _), Below.refl _ _⟩
theorem ascii_at {cs : Bytes} (h : isAscii cs = true) : ∀ (j : Nat) b, (ByteArray.mk cs.toArray).data.toList[j]? = some b → b.toNat < 128 := by
  intro j b hj
  have := (List.all_eq_true.1 h) b (List.mem_of_getElem? hj)
  exact of_decide_eq_true this
theorem lib_trim {f : FuncId} (en : Enters P f) (hc : ∀ (s cs : ByteArray) (w : World), s.size ≤ 9223372036854775807 → cs.size < 4294967281 → (∀ (j : Nat) b, cs.data.toList[j]? = some b → b.toNat < 128) →
      Calls P f #[.string s, .string cs] w fun e w' => e = .returned (.string ⟨(Lib.trimS s.data.toList cs.data.toList).toArray⟩) ∧ Below w.heap.size w w') :
    PureOk P E W0 f (argG [.str, .str] fun vs R K => lTrim (strOf (vs.getD 0 .any)) (strOf (vs.getD 1 .any)) (fun r1 => K (GV.pv (PV.str r1)))) := by
  refine PureOk.lib (ks := [.str, .str]) (c := fun vs => decide ((strOf (vs.getD 0 .any)).length ≤ LIM) && (decide ((strOf (vs.getD 1 .any)).length < 4294967281) && isAscii (strOf (vs.getD 1 .any)))) (x := fun vs => GV.pv (PV.str (Lib.trimS (strOf (vs.getD 0 .any)) (strOf (vs.getD 1 .any))))) (fun vs R K => rfl) en fun vs hv hcd => ?_
  obtain ⟨a, b, rfl, h1, h2⟩ := fit2 hv
  obtain ⟨s, rfl⟩ := fitStr h1
  obtain ⟨t, rfl⟩ := fitStr h2
  simp only [Bool.and_eq_true, decide_eq_true_eq] at hcd
  obtain ⟨c1, c2, c3⟩ := hcd
  have c1 : s.length ≤ 1099511627776 := c1
  have c2 : t.length < 4294967281 := c2
  refine PureFn.str2 rfl fun w hb => (hc ⟨s.toArray⟩ ⟨t.toArray⟩ w (by rw [bsize]; omega) (by rw [bsize]; omega) (ascii_at c3)).mono ?_
  rintro e w' ⟨rfl, h⟩
  exact ⟨_, rfl, fun I => .str _, h⟩
theorem lib_trimLeft {f : FuncId} (en : Enters P f) (hc : ∀ (s cs : ByteArray) (w : World), cs.size < 4294967281 → (∀ (j : Nat) b, cs.data.toList[j]? = some b → b.toNat < 128) →
      Calls P f #[.string s, .string cs] w fun e w' => e = .returned (.string ⟨(Lib.trimLeftS s.data.toList cs.data.toList).toArray⟩) ∧ Below w.heap.size w w') :
    PureOk P E W0 f (argG [.str, .str] fun vs R K => lTrimLeft (strOf (vs.getD 0 .any)) (strOf (vs.getD 1 .any)) (fun r1 => K (GV.pv (PV.str r1)))) := by
  refine PureOk.lib (ks := [.str, .str]) (c := fun vs => decide ((strOf (vs.getD 0 .any)).length ≤ LIM) && (decide ((strOf (vs.getD 1 .any)).length < 4294967281) && isAscii (strOf (vs.getD 1 .any)))) (x := fun vs => GV.pv (PV.str (Lib.trimLeftS (strOf (vs.getD 0 .any)) (strOf (vs.getD 1 .any))))) (fun vs R K => rfl) en fun vs hv hcd => ?_
  obtain ⟨a, b, rfl, h1, h2⟩ := fit2 hv
  obtain ⟨s, rfl⟩ := fitStr h1
  obtain ⟨t, rfl⟩ := fitStr h2
  simp only [Bool.and_eq_true, decide_eq_true_eq] at hcd
  obtain ⟨c1, c2, c3⟩ := hcd
  have c2 : t.length < 4294967281 := c2
  refine PureFn.str2 rfl fun w hb => (hc ⟨s.toArray⟩ ⟨t.toArray⟩ w (by rw [bsize]; omega) (ascii_at c3)).mono ?_
  rintro e w' ⟨rfl, h⟩
  exact ⟨_, rfl, fun I => .str _, h⟩
theorem lib_replaceAll {f : FuncId} (en : Enters P f) {g : Nat} {m : Int} (hm : W0.cell? ⟨g, 0, none⟩ = some (.int .i64 m))
    (hc : ∀ (s old new : ByteArray) (m : Int) (w : World), s.size < 4294967281 → w.cell? ⟨g, 0, none⟩ = some (.int .i64 m) → 1 ≤ old.size → s.size + Lib.count s.data.toList old.data.toList * new.size ≤ 140737488355328 →
      Calls P f #[.string s, .string old, .string new] w fun e w' => e = .returned (.string ⟨(Lib.replaceAll s.data.toList old.data.toList new.data.toList).toArray⟩) ∧ Below w.heap.size w w') :
    PureOk P E W0 f (argG [.str, .str, .str] fun vs R K => lReplaceAll (strOf (vs.getD 0 .any)) (strOf (vs.getD 1 .any)) (strOf (vs.getD 2 .any)) (fun r1 => K (GV.pv (PV.str r1)))) := by
  refine PureOk.lib (ks := [.str, .str, .str]) (c := fun vs => decide ((strOf (vs.getD 0 .any)).length < 4294967281) && (decide (1 ≤ (strOf (vs.getD 1 .any)).length) && decide ((strOf (vs.getD 0 .any)).length + Lib.count (strOf (vs.getD 0 .any)) (strOf (vs.getD 1 .any)) * (strOf (vs.getD 2 .any)).length ≤ BLIM)))
    (x := fun vs => GV.pv (PV.str (Lib.replaceAll (strOf (vs.getD 0 .any)) (strOf (vs.getD 1 .any)) (strOf (vs.getD 2 .any))))) (fun vs R K => rfl) en fun vs hv hcd => ?_
  obtain ⟨a, b, c, rfl, h1, h2, h3⟩ := fit3 hv
  obtain ⟨s, rfl⟩ := fitStr h1
  obtain ⟨t, rfl⟩ := fitStr h2
  obtain ⟨u, rfl⟩ := fitStr h3
  simp only [Bool.and_eq_true, decide_eq_true_eq] at hcd
  obtain ⟨c1, c2, c3⟩ := hcd
  have c1 : s.length < 4294967281 := c1
  have c2 : 1 ≤ t.length := c2
  have c3 : s.length + Lib.count s t * u.length ≤ 140737488355328 := c3
  refine PureFn.str3 rfl fun w hb => (hc ⟨s.toArray⟩ ⟨t.toArray⟩ ⟨u.toArray⟩ m w (by rw [bsize]; exact c1) (cell_below hb hm) (by rw [bsize]; exact c2) (by rw [bsize, bsize]; exact c3)).mono ?_
  rintro e w' ⟨rfl, h⟩
  exact ⟨_, rfl, fun I => .str _, h⟩
theorem lib_valid {f : FuncId} (en : Enters P f) {T : World → Prop} (hT : ∀ w, Below W0.heap.size W0 w → T w)
    (hc : ∀ (s : ByteArray) (w : World), s.size ≤ 9223372036854775807 → T w → Calls P f #[.string s] w fun e w' => e = .returned (.bool (Lib.validD s.data.toList)) ∧ Below w.heap.size w w') :
    PureOk P E W0 f (argG [.str] fun vs R K => lValid (strOf (vs.getD 0 .any)) (fun r1 => K (GV.pv (PV.bool r1)))) := by
  refine PureOk.lib (ks := [.str]) (c := fun vs => decide ((strOf (vs.getD 0 .any)).length ≤ LIM)) (x := fun vs => GV.pv (PV.bool (Lib.validD (strOf (vs.getD 0 .any))))) (fun vs R K => rfl) en fun vs hv hcd => ?_
  obtain ⟨a, rfl, h1⟩ := fit1 hv
  obtain ⟨s, rfl⟩ := fitStr h1
  have c1 : s.length ≤ 1099511627776 := of_decide_eq_true hcd
  refine PureFn.str1 rfl fun w hb => (hc ⟨s.toArray⟩ w (by rw [bsize]; omega) (hT w hb)).mono ?_
  rintro e w' ⟨rfl, h⟩
  exact ⟨_, rfl, fun I => .bool _, h⟩
theorem lib_runeCount {f : FuncId} (en : Enters P f) (hc : ∀ (s : ByteArray) (w : World), s.size < 9223372036854775807 → Calls P f #[.string s] w fun e w' => e = .returned (.int .i64 (Lib.runeCount s)) ∧ ∃ pos, w' = w.iter s pos) :
    PureOk P E W0 f (argG [.str] fun vs R K => lRuneCount (strOf (vs.getD 0 .any)) (fun r1 => K (GV.pv (PV.int .i64 r1)))) := by
  refine PureOk.lib (ks := [.str]) (c := fun vs => decide ((strOf (vs.getD 0 .any)).length ≤ LIM)) (x := fun vs => GV.pv (PV.int .i64 ((Lib.runeCountL (strOf (vs.getD 0 .any)) : Nat) : Int))) (fun vs R K => rfl) en fun vs hv hcd => ?_
  obtain ⟨a, rfl, h1⟩ := fit1 hv
  obtain ⟨s, rfl⟩ := fitStr h1
  have c1 : s.length ≤ 1099511627776 := of_decide_eq_true hcd
  refine PureFn.str1 rfl fun w hb => (hc ⟨s.toArray⟩ w (by rw [bsize]; omega)).mono ?_
  rintro e w' ⟨rfl, pos, rfl⟩
  exact ⟨_, rfl, fun I => .int _ _, below_push w _ rfl rfl rfl _ rfl⟩
theorem lib_itoa {f : FuncId} (en : Enters P f) {T : World → Prop} (hT : ∀ w, Below W0.heap.size W0 w → T w)
    (hc : ∀ (n : Int) (w : World), -9223372036854775808 ≤ n → n ≤ 9223372036854775807 → T w → Calls P f #[.int .i64 n] w fun e w' => e = .returned (.string ⟨(Lib.itoa n).toArray⟩) ∧ Below w.heap.size w w') :
    PureOk P E W0 f (argG [.int .i64] fun vs R K => lItoa (intOf (vs.getD 0 .any)) (fun r1 => K (GV.pv (PV.str r1)))) := by
  refine PureOk.lib (ks := [.int .i64]) (c := fun vs => decide (-9223372036854775808 ≤ intOf (vs.getD 0 .any)) && decide (intOf (vs.getD 0 .any) ≤ 9223372036854775807)) (x := fun vs => GV.pv (PV.str (Lib.itoa (intOf (vs.getD 0 .any))))) (fun vs R K => rfl) en fun vs hv hcd => ?_
  obtain ⟨a, rfl, h1⟩ := fit1 hv
  obtain ⟨n, rfl⟩ := fitInt h1
  simp only [Bool.and_eq_true, decide_eq_true_eq] at hcd
  refine PureFn.int1 rfl fun w hb => (hc n w hcd.1 hcd.2 (hT w hb)).mono ?_
  rintro e w' ⟨rfl, h⟩
  exact ⟨_, rfl, fun I => .str _, h⟩
theorem lib_atoi {f : FuncId} (en : Enters P f)
    (ho : ∀ (s : ByteArray) (v : Int) (w : World), s.size ≤ 9223372036854775806 → Lib.atoiAll s.data.toList = .ok v → Calls P f #[.string s] w fun e w' => e = .returned (.tuple #[.int .i64 v, .nilIface]) ∧ Below w.heap.size w w')
    (hs : ∀ (s : ByteArray) (w : World), Below W0.heap.size W0 w → s.size ≤ 281474976710656 → (Lib.atoiAll s.data.toList ≠ .range ∧ ∀ v, Lib.atoiAll s.data.toList ≠ .ok v) → Calls P f #[.string s] w fun e w' => (∃ t v, e = .returned (.tuple #[.int .i64 0, .iface t v])) ∧ Below w.heap.size w w')
    (hr : ∀ (s : ByteArray) (w : World), Below W0.heap.size W0 w → s.size ≤ 281474976710656 → Lib.atoiAll s.data.toList = .range → Calls P f #[.string s] w fun e w' => (∃ t v, e = .returned (.tuple #[.int .i64 (Lib.atoiSat s.data.toList), .iface t v])) ∧ Below w.heap.size w w') :
    PureOk P E W0 f (argG [.str] fun vs R K => lAtoi (strOf (vs.getD 0 .any)) (fun r1 r2 => K (GV.tup [CV.p (PV.int .i64 r1), CV.p r2]))) := by
  refine PureOk.lib (ks := [.str]) (c := fun vs => decide ((strOf (vs.getD 0 .any)).length ≤ 281474976710656)) (x := fun vs => GV.tup [CV.p (PV.int .i64 (atoiVal (strOf (vs.getD 0 .any)))), CV.p (bif atoiOk (strOf (vs.getD 0 .any)) then .nilif else .someif)]) (fun vs R K => rfl) en fun vs hv hcd => ?_
  obtain ⟨a, rfl, h1⟩ := fit1 hv
  obtain ⟨s, rfl⟩ := fitStr h1
  have c1 : s.length ≤ 281474976710656 := of_decide_eq_true hcd
  have hk : (GV.tup [CV.p (PV.int .i64 (atoiVal s)), CV.p (bif atoiOk s then .nilif else .someif)]).keys = [] := by simp [GV.keys, CV.keys]
  refine PureFn.str1 hk fun w hb => ?_
  show Calls P f _ w fun e w' => ∃ x, e = .returned x ∧ (∀ I, RepG I (fun _ => none) (GV.tup [CV.p (PV.int .i64 (atoiVal s)), CV.p (bif atoiOk s then .nilif else .someif)]) x) ∧ Below w.heap.size w w'
  unfold atoiVal atoiOk
  cases hA : Lib.atoiAll s with
  | ok v =>
    refine (ho ⟨s.toArray⟩ v w (by rw [bsize]; omega) hA).mono ?_
    rintro e w' ⟨rfl, h⟩
    exact ⟨_, rfl, fun I => repTup2 (.int _ _) .nilif, h⟩
  | range =>
    refine (hr ⟨s.toArray⟩ w hb (by rw [bsize]; omega) hA).mono ?_
    rintro e w' ⟨⟨t, v, rfl⟩, h⟩
    exact ⟨_, rfl, fun I => repTup2 (.int _ _) (.someif _ _), h⟩
  | _ =>
    refine (hs ⟨s.toArray⟩ w hb (by rw [bsize]; omega) ⟨fun e => (by cases hA.symm.trans e), fun v e => (by cases hA.symm.trans e)⟩).mono ?_
    rintro e w' ⟨⟨t, v, rfl⟩, h⟩
    exact ⟨_, rfl, fun I => repTup2 (.int _ _) (.someif _ _), h⟩
theorem lib_join {f : FuncId} (en : Enters P f) (h0 : ∀ (a : Option Addr) (c : Nat) (sep : ByteArray) (w : World), Calls P f #[.slice a 0 c, .string sep] w fun e w' => e = .returned (.string ⟨#[]⟩) ∧ w' = w)
    (hc : ∀ (bk o c : Nat) (xs : List ByteArray) (sep : ByteArray) (w : World), (∀ (j : Nat) x, xs[j]? = some x → w.cell? ⟨bk, o + j, none⟩ = some (.string x)) → bk < w.heap.size → xs.length ≤ 140737488355328 → xs.length ≤ c → (Lib.join (xs.map (·.data.toList)) sep.data.toList).length ≤ 140737488355328 →
      Calls P f #[.slice (some ⟨bk, o, none⟩) xs.length c, .string sep] w fun e w' => e = .returned (.string ⟨(Lib.join (xs.map (·.data.toList)) sep.data.toList).toArray⟩) ∧ Below w.heap.size w w') :
    PureOk P E W0 f (argG [.sl 1, .str] fun vs R K => lJoin (slOf (vs.getD 0 .any)) (strOf (vs.getD 1 .any)) (fun r1 => K (GV.pv (PV.str r1)))) := by
  refine PureOk.lib (ks := [.sl 1, .str]) (c := fun vs => (slOf (vs.getD 0 .any)).all isStr && (decide ((slOf (vs.getD 0 .any)).length ≤ BLIM) && decide ((Lib.join ((slOf (vs.getD 0 .any)).map strOf) (strOf (vs.getD 1 .any))).length ≤ BLIM)))
    (x := fun vs => GV.pv (PV.str (Lib.join ((slOf (vs.getD 0 .any)).map strOf) (strOf (vs.getD 1 .any))))) (fun vs R K => rfl) en fun vs hv hcd => ?_
  obtain ⟨a, b, rfl, h1, h2⟩ := fit2 hv
  obtain ⟨es, rfl⟩ := fitSl h1
  obtain ⟨t, rfl⟩ := fitStr h2
  simp only [Bool.and_eq_true, decide_eq_true_eq] at hcd
  obtain ⟨c1, c2, c3⟩ := hcd
  have c1 : es.all isStr = true := c1
  have c2 : es.length ≤ 140737488355328 := c2
  have c3 : (Lib.join (es.map strOf) t).length ≤ 140737488355328 := c3
  refine PureFn.lib rfl fun {I w aa} hI hb hl ha => ?_
  have g0 := ha 0 (by simp)
  have g1 := repStr (ha 1 (by simp))
  have has : aa = #[aa.getD 0 undef, .string ⟨t.toArray⟩] := by
    apply Array.ext
    · simpa using hl
    · intro i q1 q2
      match i, q2 with
      | 0, _ => simp [Array.getD, q1]
      | 1, _ => simpa [Array.getD, q1] using g1
      | i + 2, g => exact absurd g (by simp)
  have g0 : RepP I (.sl 1 es) (aa.getD 0 undef) := g0
  generalize aa.getD 0 undef = y at g0 has
  subst has
  cases g0 with
  | nilsl _ a =>
    refine (h0 a 0 ⟨t.toArray⟩ w).mono ?_
    rintro e w' ⟨rfl, rfl⟩
    exact ⟨_, rfl, .str _, Below.refl _ _⟩
  | sl _ _ bk o cap ff hcap hcc hIr hf =>
    by_cases hne : es = []
    · subst hne
      refine (h0 (some ⟨bk, o, none⟩) cap ⟨t.toArray⟩ w).mono ?_
      rintro e w' ⟨rfl, rfl⟩
      exact ⟨_, rfl, .str _, Below.refl _ _⟩
    · have hpos : 0 < es.length := List.length_pos_iff.2 hne
      have hstr : ∀ j, j < es.length → ∃ s, es[j]? = some (.str s) ∧ ff j 0 = .string ⟨s.toArray⟩ := by
        intro j hj
        have := (List.all_eq_true.1 c1) es[j] (List.getElem_mem hj)
        have e1 : es[j] = .str (strOf es[j]) := by cases hh : es[j] <;> rw [hh] at this <;> first | rfl | (simp [isStr] at this)
        have e2 := hf j 0 hj (by omega)
        rw [getD_lt hj, e1] at e2
        exact ⟨strOf es[j], by rw [List.getElem?_eq_getElem hj]; exact congrArg some e1, repStr e2⟩
      have hcell : ∀ j, j < es.length → w.cell? ⟨bk, o + j, none⟩ = some (ff j 0) := by
        intro j hj
        have := hI _ _ _ (hIr.hI j 0 hj (by omega))
        simpa using this
      have hbk : bk < w.heap.size := by
        have := hcell 0 hpos
        unfold World.cell? at this
        cases hh : w.heap[bk]? with
        | none => simp [hh] at this
        | some o => exact (Array.getElem?_eq_some_iff.1 hh).1
      have hmap : (es.map fun x => (⟨(strOf x).toArray⟩ : ByteArray)).map (·.data.toList) = es.map strOf := by simp [List.map_map, Function.comp_def]
      have := hc bk o cap (es.map fun x => ⟨(strOf x).toArray⟩) ⟨t.toArray⟩ w (fun j x hx => ?_) hbk (by simpa using c2) (by simpa using hcap) (by rw [hmap]; exact c3)
      · rw [hmap, List.length_map] at this
        refine this.mono ?_
        rintro e w' ⟨rfl, h⟩
        exact ⟨_, rfl, .str _, h⟩
      · rw [List.getElem?_map] at hx
        obtain ⟨y, hy, rfl⟩ := Option.map_eq_some_iff.1 hx
        have hj := (List.getElem?_eq_some_iff.1 hy).1
        obtain ⟨s, k1, k2⟩ := hstr j hj
        rw [k1] at hy
        injection hy with hy
        rw [hcell j hj, k2, ← hy]
        rfl
/-! Builders. -/
theorem HeapGOk.lib {f : FuncId} {n : Nat} {sh : Shape} {c : List PV → Bool} {x : List PV → GV} {H : List PV → List (Nat × Ob)} {F : List PV → (R : Type) → (GV → List (Nat × Ob) → Option R) → Option R}
    (hF : ∀ vs R K, F vs R K = bif c vs then K (x vs) (H vs) else none) (en : Enters P f) (h : ∀ vs, c vs = true → HeapFn P E tB W0 f (sh.asOf n vs) (sh.hOf vs) (x vs) (H vs)) : HeapGOk P E tB W0 f (argH n sh F) := by
  refine ⟨en, fun aa H => ?_, fun aa H v H' hv => ?_⟩
  · unfold argH
    cases sh.fitsH n aa H
    · intro R K; rfl
    · intro R K
      simp only [cond_true]
      rw [hF, hF]
      cases c _ <;> rfl
  · unfold argH at hv
    cases hfit : sh.fitsH n aa H
    · rw [hfit] at hv; cases hv
    · simp only [hfit, cond_true] at hv
      rw [hF] at hv
      cases hc : c (sh.pick ⟨args0 0 aa, H⟩)
      · rw [hc] at hv; cases hv
      · rw [hc] at hv
        simp only [cond_true, Option.some.injEq, Prod.mk.injEq] at hv
        rw [← hv.1, ← hv.2]
        exact HeapFn.told hfit (h _ hc)
theorem HeapFn.bld {f : FuncId} {args : List GV} {s s' : Bytes} {v : GV} {vals : List Value} {x : Value} (hv : ∀ I μ, RepG I μ v x) (ha : ∀ I μ (aa : Array Value), aa.size = args.length + 1 → (∀ i, i < args.length → RepG I μ (args.getD i .any) (aa.getD (i + 1) undef)) → aa.toList.drop 1 = vals)
    (hc : ∀ B b w, Lib.IsBuilderF tB E.tb B b (Lib.byteCells s) w → B ≤ w.heap.size → Calls P f (#[.pointer (some ⟨b, 0, none⟩)] ++ vals.toArray) w fun e w' => e = .returned x ∧ (Lib.IsBuilderF tB E.tb B b (Lib.byteCells s') w' ∧ Below B w w' ∧ Lib.OthersKept E.tb (some b) w w')) :
    HeapFn P E tB W0 f (.c (.ptr 1000 0) :: args) [(1000, .bld s)] v [(1000, .bld s')] := by
  intro X I μ w aa hX hT hW hS hbb h1 hcx hro him hB hbel hheap hl hargs
  subst hX hT hW
  obtain ⟨b, base, k1, k2, k3, k4⟩ := hheap.ok 1000 (.bld s) (by simp [look])
  have hb : X.hb = true := by rw [hbb]; rfl
  have hsz : base ≤ w.heap.size ∨ True := .inr trivial
  have h0 := hargs 0 (by simp)
  have e0 : aa.getD 0 undef = .pointer (some ⟨b, 0, none⟩) := by
    rcases h0 with ⟨b', hb', e⟩ | ⟨b', bs', hb', e0, e⟩
    · rw [k1] at hb'; cases hb'
    · rw [k1] at hb'; injection hb' with hb'; injection hb' with hb' _; subst hb'; exact e
  have has : aa = #[.pointer (some ⟨b, 0, none⟩)] ++ vals.toArray := by
    have := ha I μ aa (by simpa using hl) (fun i hi => by simpa using hargs (i + 1) (by simp; omega))
    rw [← this]
    have hlen : 0 < aa.size := by rw [hl]; simp
    apply Array.ext'
    simp only [Array.toList_append]
    obtain ⟨l⟩ := aa
    cases l with
    | nil => simp at hlen
    | cons y l =>
      have e1 : y = .pointer (some ⟨b, 0, none⟩) := by rw [← e0]; simp [Array.getD]
      subst e1
      simp
  rw [has]
  by_cases hbw : base ≤ w.heap.size
  · refine (hc base b w k4 hbw).mono ?_
    rintro e w' ⟨rfl, q1, q2, q3⟩
    have hSb : X.S b := by rw [hS]; exact ⟨1000, _, _, by simp [look]; rfl, k1, rfl⟩
    have hnb : ∀ p, I b p = none := hheap.imm 1000 (.bld s) _ b (by simp [look]) k1 rfl
    refine ⟨x, I, μ, rfl, hv I μ, NewI.refl X I, ⟨hro, Keep.refl μ⟩, ?_, ⟨?_, ?_, ?_, ?_, ?_⟩, ⟨q2.os, q2.tape, q2.output, q2.size, ?_⟩⟩
    · intro b' o u hu
      obtain ⟨arr, T, fz, m1, m2, m3⟩ := him b' o u hu
      refine ⟨arr, T, fz, ?_, m2, m3⟩
      rcases m3 with m3 | m3
      · rw [q2.block b' (by omega)]; exact m1
      · refine q3 b' _ m1 (fun e => ?_) (fun c fz' e => m3 (by injection e))
        injection e with e
        subst e
        rw [hnb] at hu; cases hu
    · intro r o ho
      simp only [look_cons] at ho
      by_cases e : r = 1000
      · rw [if_pos e] at ho
        injection ho with ho
        subst e; subst ho
        exact ⟨b, base, k1, k2, k3, q1⟩
      · rw [if_neg e] at ho; simp [look] at ho
    · intro r r' o o' l l' b' ho ho' hne
      simp only [look_cons] at ho ho'
      by_cases e : r = 1000
      · by_cases e' : r' = 1000
        · exact absurd (e.trans e'.symm) hne
        · rw [if_neg e'] at ho'; simp [look] at ho'
      · rw [if_neg e] at ho; simp [look] at ho
    · intro r o l b' ho hl hb'
      simp only [look_cons] at ho
      by_cases e : r = 1000
      · rw [if_pos e] at ho
        exact hheap.imm r (.bld s) l b' (by simp [look, e]) hl hb'
      · rw [if_neg e] at ho; simp [look] at ho
    · intro r o l b' ho hl hb'
      simp only [look_cons] at ho
      by_cases e : r = 1000
      · rw [if_pos e] at ho
        exact hheap.own r (.bld s) l b' (by simp [look, e]) hl hb'
      · rw [if_neg e] at ho; simp [look] at ho
    · intro r r' o o' ho ho' hne
      simp only [look_cons] at ho ho'
      by_cases e : r = 1000
      · by_cases e' : r' = 1000
        · exact absurd (e.trans e'.symm) hne
        · rw [if_neg e'] at ho'; simp [look] at ho'
      · rw [if_neg e] at ho; simp [look] at ho
    · intro b' o ho hnS hby
      rcases hby hb with hlt | hty
      · rcases k3 with ⟨_, k5⟩ | k5
        · rw [q2.block b' (by omega)]; exact ho
        · have := (Array.getElem?_eq_some_iff.1 ho).1
          rw [h1] at k5
          rw [q2.block b' (by omega)]; exact ho
      · refine q3 b' o ho (fun e => ?_) hty
        injection e with e
        exact hnS (e ▸ hSb)
  · exfalso
    have : b < w.heap.size := by
      rcases k4 with k4 | k4 <;>
      · obtain ⟨_, v, hv', _⟩ := k4
        exact (Array.getElem?_eq_some_iff.1 hv').1
    have hBb : base ≤ b := by
      rcases k4 with k4 | k4 <;>
      · exact k4.1
    omega
theorem isB_of {T e : TypeId} {B b : Nat} {bs : List Value} {w : World} (h : Lib.BuilderAtF T e B b (.pointer (some ⟨b, 0, none⟩)) bs w) : Lib.IsBuilderF T e B b bs w := .inr h
theorem drop1 {aa : Array Value} {y z : Value} (h : aa.size = 2) (h1 : aa.getD 1 undef = z) : aa.toList.drop 1 = [z] := by
  obtain ⟨l⟩ := aa
  match l, h with
  | [a, b], _ => simp at h1 ⊢; exact h1
theorem lib_writeString {f : FuncId} (en : Enters P f) (hc : ∀ (B b : Nat) (bs : List Value) (s : ByteArray) (w : World), Lib.IsBuilderF tB E.tb B b bs w → bs.length + s.size ≤ 140737488355328 → B ≤ w.heap.size →
      Calls P f #[.pointer (some ⟨b, 0, none⟩), .string s] w fun e w' => e = .returned (.tuple #[.int .i64 s.size, .nilIface]) ∧ (Lib.BuilderAtF tB E.tb B b (.pointer (some ⟨b, 0, none⟩)) (bs ++ Lib.strCells s) w' ∧ Below B w w' ∧ Lib.OthersKept E.tb (some b) w w')) :
    HeapGOk P E tB W0 f (argH 2 ⟨[(0, .fix (CV.ptr 1000 0)), (1, .str)], [(1000, .bld)], []⟩ fun vs R K => lWriteString (strOf (vs.getD 1 .any)) (strOf (vs.getD 2 .any)) (fun r1 r2 o3 => K (GV.tup [CV.p (PV.int .i64 r1), CV.p r2]) [(1000, Ob.bld o3)])) := by
  refine HeapGOk.lib (c := fun vs => decide ((strOf (vs.getD 2 .any)).length + (strOf (vs.getD 1 .any)).length ≤ BLIM)) (x := fun vs => GV.tup [CV.p (PV.int .i64 (((strOf (vs.getD 1 .any)).length : Nat) : Int)), CV.p .nilif]) (H := fun vs => [(1000, Ob.bld (strOf (vs.getD 2 .any) ++ strOf (vs.getD 1 .any)))]) (fun vs R K => rfl) en fun vs hcd => ?_
  have hcd : (strOf (vs.getD 2 .any)).length + (strOf (vs.getD 1 .any)).length ≤ 140737488355328 := of_decide_eq_true hcd
  show HeapFn P E tB W0 f [.c (.ptr 1000 0), .c (.p (.str (strOf (vs.getD 1 .any))))] [(1000, .bld (strOf (vs.getD 2 .any)))] _ _
  generalize strOf (vs.getD 1 .any) = t at hcd ⊢
  generalize strOf (vs.getD 2 .any) = s at hcd ⊢
  refine HeapFn.bld (vals := [.string ⟨t.toArray⟩]) (x := .tuple #[.int .i64 ((t.length : Nat) : Int), .nilIface]) (fun I μ => ?_) (fun I μ aa h1 h2 => drop1 (y := undef) (by simpa using h1) (repStr (h2 0 (by simp)))) fun B b w hB hw => ?_
  · have := repTup2 (I := I) (.int .i64 ((t.length : Nat) : Int)) .nilif
    exact RepG.pure this (by simp [GV.keys, CV.keys])
  · refine (hc B b (Lib.byteCells s) ⟨t.toArray⟩ w hB (by rw [bsize]; simpa [Lib.byteCells] using hcd) hw).mono ?_
    rintro e w' ⟨rfl, q1, q2, q3⟩
    refine ⟨by rw [bsize], ?_, q2, q3⟩
    have e1 : Lib.byteCells s ++ Lib.strCells ⟨t.toArray⟩ = Lib.byteCells (s ++ t) := by simp [Lib.byteCells, Lib.strCells]
    rw [← e1]
    exact isB_of q1
theorem lib_writeByte {f : FuncId} (en : Enters P f) (hc : ∀ (B b : Nat) (bs : List Value) (c : Int) (w : World), Lib.IsBuilderF tB E.tb B b bs w → bs.length + 1 ≤ 140737488355328 → B ≤ w.heap.size →
      Calls P f #[.pointer (some ⟨b, 0, none⟩), .int .u8 c] w fun e w' => e = .returned .nilIface ∧ (Lib.BuilderAtF tB E.tb B b (.pointer (some ⟨b, 0, none⟩)) (bs ++ [.int .u8 c]) w' ∧ Below B w w' ∧ Lib.OthersKept E.tb (some b) w w')) :
    HeapGOk P E tB W0 f (argH 2 ⟨[(0, .fix (CV.ptr 1000 0)), (1, .int .u8)], [(1000, .bld)], []⟩ fun vs R K => lWriteByte (intOf (vs.getD 1 .any)) (strOf (vs.getD 2 .any)) (fun r1 o2 => K (GV.pv (r1)) [(1000, Ob.bld o2)])) := by
  refine HeapGOk.lib (c := fun vs => decide ((strOf (vs.getD 2 .any)).length + 1 ≤ BLIM) && (decide (0 ≤ intOf (vs.getD 1 .any)) && decide (intOf (vs.getD 1 .any) < 256))) (x := fun vs => GV.pv .nilif) (H := fun vs => [(1000, Ob.bld (strOf (vs.getD 2 .any) ++ [UInt8.ofNat (intOf (vs.getD 1 .any)).toNat]))]) (fun vs R K => rfl) en fun vs hcd => ?_
  simp only [Bool.and_eq_true, decide_eq_true_eq] at hcd
  obtain ⟨c1, c2, c3⟩ := hcd
  have c1 : (strOf (vs.getD 2 .any)).length + 1 ≤ 140737488355328 := c1
  show HeapFn P E tB W0 f [.c (.ptr 1000 0), .c (.p (.int .u8 (intOf (vs.getD 1 .any))))] [(1000, .bld (strOf (vs.getD 2 .any)))] _ _
  generalize intOf (vs.getD 1 .any) = t at c2 c3 ⊢
  generalize strOf (vs.getD 2 .any) = s at c1 ⊢
  refine HeapFn.bld (vals := [.int .u8 t]) (x := .nilIface) (fun I μ => RepP.nilif) (fun I μ aa h1 h2 => drop1 (y := undef) (by simpa using h1) (repInt (h2 0 (by simp)))) fun B b w hB hw => ?_
  refine (hc B b (Lib.byteCells s) t w hB (by simpa [Lib.byteCells] using c1) hw).mono ?_
  rintro e w' ⟨rfl, q1, q2, q3⟩
  refine ⟨rfl, ?_, q2, q3⟩
  have e1 : Lib.byteCells s ++ [.int .u8 t] = Lib.byteCells (s ++ [UInt8.ofNat t.toNat]) := by
    simp only [Lib.byteCells, List.map_append, List.map_cons, List.map_nil]
    congr 3
    have : (UInt8.ofNat t.toNat).toNat = t.toNat := by simp; omega
    rw [this]; omega
  rw [← e1]
  exact isB_of q1
theorem lib_string {f : FuncId} (en : Enters P f) (hc : ∀ (B b : Nat) (l : List UInt8) (w : World), Lib.IsBuilderF tB E.tb B b (Lib.byteCells l) w → B ≤ w.heap.size →
      Calls P f #[.pointer (some ⟨b, 0, none⟩)] w fun e w' => e = .returned (.string ⟨l.toArray⟩) ∧ (Lib.IsBuilderF tB E.tb B b (Lib.byteCells l) w' ∧ Below B w w' ∧ Lib.OthersKept E.tb (some b) w w')) :
    HeapGOk P E tB W0 f (argH 1 ⟨[(0, .fix (CV.ptr 1000 0))], [(1000, .bld)], []⟩ fun vs R K => lString (strOf (vs.getD 1 .any)) (fun r1 o2 => K (GV.pv (PV.str r1)) [(1000, Ob.bld o2)])) := by
  refine HeapGOk.lib (c := fun vs => true) (x := fun vs => GV.pv (.str (strOf (vs.getD 1 .any)))) (H := fun vs => [(1000, Ob.bld (strOf (vs.getD 1 .any)))]) (fun vs R K => rfl) en fun vs hcd => ?_
  show HeapFn P E tB W0 f [.c (.ptr 1000 0)] [(1000, .bld (strOf (vs.getD 1 .any)))] _ _
  generalize strOf (vs.getD 1 .any) = s
  refine HeapFn.bld (vals := []) (x := .string ⟨s.toArray⟩) (fun I μ => RepP.str _) (fun I μ aa h1 h2 => ?_) fun B b w hB hw => hc B b s w hB hw
  obtain ⟨l⟩ := aa
  match l, h1 with
  | [a], _ => rfl
end
end Go.Dip
end
/- Printed by program: the functions of a seat, plainly, and that they are what the evaluator says. -/
section
set_option linter.unusedVariables false
set_option maxRecDepth 100000
namespace Go.Dip
open Go.Proofs
noncomputable section
def tyT : Tr := (.node 92 .fn 1 0 (.node 48 .fn 1 0 (.node 25 .fn 1 0 (.node 12 (.int .u64) 1 0 (.node 5 (.int .u8) 1 0 (.node 3 (.int .i64) 1 0 (.node 2 (.int .i64) 1 0 (.node 1 .fn 1 0 .leaf .leaf) .leaf) (.node 4 .bool 1 0 .leaf .leaf)) (.node 10 .str 1 0 (.node 9 .str 1 0 (.node 6 (.int .u8) 1 0 .leaf .leaf) .leaf) (.node 11 .str 1 0 .leaf .leaf))) (.node 21 (.int .i32) 1 0 (.node 17 (.ptr 195) 1 0 (.node 16 (.ptr 188) 1 0 (.node 15 (.ptr 185) 1 0 .leaf .leaf) .leaf) (.node 20 .iface 1 0 .leaf .leaf)) (.node 23 (.struct [(0, 5), (1, 3), (2, 3), (3, 22), (4, 9), (5, 9)]) 6 0 (.node 22 (.slice 54) 1 0 .leaf .leaf) (.node 24 (.struct [(0, 5), (1, 3), (2, 3), (3, 22), (4, 9), (5, 9)]) 6 0 .leaf .leaf)))) (.node 36 .fn 1 0 (.node 32 .fn 1 0 (.node 28 (.int .i64) 1 0 (.node 27 (.slice 24) 1 0 (.node 26 .fn 1 0 .leaf .leaf) .leaf) (.node 30 .fn 1 0 .leaf .leaf)) (.node 34 (.struct [(0, 5), (1, 3), (2, 3), (3, 22), (4, 9), (5, 9)]) 6 0 (.node 33 .fn 1 0 .leaf .leaf) (.node 35 .fn 1 0 .leaf .leaf))) (.node 44 .fn 1 0 (.node 41 (.slice 34) 1 0 (.node 40 .fn 1 0 (.node 38 .fn 1 0 .leaf .leaf) .leaf) (.node 43 .fn 1 0 .leaf .leaf)) (.node 46 .fn 1 0 (.node 45 .fn 1 0 .leaf .leaf) (.node 47 .fn 1 0 .leaf .leaf))))) (.node 71 .fn 1 0 (.node 59 .fn 1 0 (.node 53 (.struct [(0, 9), (1, 9), (2, 51), (3, 52), (4, 22)]) 5 0 (.node 51 (.slice 9) 1 0 (.node 50 .fn 1 0 (.node 49 .fn 1 0 .leaf .leaf) .leaf) (.node 52 (.slice 82) 1 0 .leaf .leaf)) (.node 56 .fn 1 0 (.node 55 .fn 1 0 (.node 54 (.struct [(0, 9), (1, 9), (2, 51), (3, 52), (4, 22)]) 5 0 .leaf .leaf) .leaf) (.node 57 .fn 1 0 .leaf .leaf))) (.node 65 .fn 1 0 (.node 62 .iface 1 0 (.node 61 .iface 1 0 (.node 60 .fn 1 0 .leaf .leaf) .leaf) (.node 64 .fn 1 0 .leaf .leaf)) (.node 68 .fn 1 0 (.node 66 .fn 1 0 .leaf .leaf) (.node 70 .fn 1 0 .leaf .leaf)))) (.node 81 (.struct [(0, 9), (1, 9)]) 2 0 (.node 76 .fn 1 0 (.node 74 .fn 1 0 (.node 73 .fn 1 0 (.node 72 .fn 1 0 .leaf .leaf) .leaf) (.node 75 .fn 1 0 .leaf .leaf)) (.node 78 (.slice 5) 1 0 (.node 77 (.ptr 80) 1 0 .leaf .leaf) (.node 80 .bld 2 0 .leaf .leaf))) (.node 86 .fn 1 0 (.node 84 .fn 1 0 (.node 83 .fn 1 0 (.node 82 (.struct [(0, 9), (1, 9)]) 2 0 .leaf .leaf) .leaf) (.node 85 .fn 1 0 .leaf .leaf)) (.node 89 .fn 1 0 (.node 88 .fn 1 0 .leaf .leaf) (.node 90 .fn 1 0 .leaf .leaf)))))) (.node 139 .fn 1 0 (.node 113 (.ptr 115) 1 0 (.node 103 .fn 1 0 (.node 98 .fn 1 0 (.node 96 .fn 1 0 (.node 95 .fn 1 0 (.node 93 .fn 1 0 .leaf .leaf) .leaf) (.node 97 .fn 1 0 .leaf .leaf)) (.node 101 (.ptr 5) 1 0 (.node 100 .fn 1 0 (.node 99 .fn 1 0 .leaf .leaf) .leaf) (.node 102 .fn 1 0 .leaf .leaf))) (.node 109 (.ptr 146) 1 0 (.node 106 (.int .i64) 1 0 (.node 105 .fn 1 0 (.node 104 .fn 1 0 .leaf .leaf) .leaf) (.node 108 .fn 1 0 .leaf .leaf)) (.node 111 .fn 1 0 (.node 110 .fn 1 0 .leaf .leaf) (.node 112 .fn 1 0 .leaf .leaf)))) (.node 122 .fn 1 0 (.node 118 (.ptr 120) 1 0 (.node 116 .fn 1 0 (.node 115 (.struct [(0, 9), (1, 4)]) 2 0 (.node 114 (.struct [(0, 9), (1, 4)]) 2 0 .leaf .leaf) .leaf) (.node 117 .fn 1 0 .leaf .leaf)) (.node 120 (.struct [(0, 9), (1, 3), (2, 4)]) 3 0 (.node 119 (.struct [(0, 9), (1, 3), (2, 4)]) 3 0 .leaf .leaf) (.node 121 .fn 1 0 .leaf .leaf))) (.node 130 (.ptr 126) 1 0 (.node 128 .fn 1 0 (.node 124 .fn 1 0 (.node 123 .fn 1 0 .leaf .leaf) .leaf) (.node 129 .fn 1 0 .leaf .leaf)) (.node 136 (.int .u64) 1 0 (.node 131 .fn 1 0 .leaf .leaf) (.node 138 .fn 1 0 .leaf .leaf))))) (.node 166 .fn 1 0 (.node 154 .fn 1 0 (.node 147 .fn 1 0 (.node 142 (.int .u64) 1 0 (.node 141 .fn 1 0 (.node 140 .fn 1 0 .leaf .leaf) .leaf) (.node 144 .fn 1 0 .leaf .leaf)) (.node 152 .fn 1 0 (.node 150 .fn 1 0 (.node 149 .fn 1 0 .leaf .leaf) .leaf) (.node 153 .fn 1 0 .leaf .leaf))) (.node 161 .fn 1 0 (.node 158 .fn 1 0 (.node 156 (.slice 21) 1 0 (.node 155 .fn 1 0 .leaf .leaf) .leaf) (.node 159 .fn 1 0 .leaf .leaf)) (.node 163 .fn 1 0 (.node 162 .fn 1 0 .leaf .leaf) (.node 164 (.int .u32) 1 0 .leaf .leaf)))) (.node 179 .fn 1 0 (.node 175 .fn 1 0 (.node 171 .fn 1 0 (.node 168 (.ptr 170) 1 0 (.node 167 .fn 1 0 .leaf .leaf) .leaf) (.node 174 .fn 1 0 .leaf .leaf)) (.node 177 .fn 1 0 (.node 176 .fn 1 0 .leaf .leaf) (.node 178 .fn 1 0 .leaf .leaf))) (.node 191 .fn 1 0 (.node 189 (.int .u8) 1 0 (.node 181 .fn 1 0 (.node 180 .fn 1 0 .leaf .leaf) .leaf) (.node 190 (.int .u8) 1 0 .leaf .leaf)) (.node 193 (.int .i32) 1 0 (.node 192 (.int .i32) 1 0 .leaf .leaf) (.node 196 .fn 1 0 .leaf .leaf)))))))
abbrev tyE : Env := tyT.env 5
def tyB : TypeId := 80
theorem tyOk : EnvOk Tryz.prog tyE tyB := envOk_of (by kernel_rfl)
end
end Go.Dip
end
/- Printed by program: the functions of a seat, plainly, and that they are what the evaluator says. -/
section
set_option linter.unusedVariables false
set_option maxRecDepth 100000
namespace Go.Dip
open Go.Proofs
noncomputable section
def G24.ks : List AK := [.str, .str]
def G24.A : List PV → Cps GV := fun vs R K => lCut (strOf (vs.getD 0 .any)) (strOf (vs.getD 1 .any)) (fun r1 r2 r3 => K (GV.tup [CV.p (PV.str r1), CV.p (PV.str r2), CV.p (PV.bool r3)]))
def G24.G : PureG := argG G24.ks (G24.A)
def G26.ks : List AK := [.str]
def G26.A : List PV → Cps GV := fun vs R K => lAtoi (strOf (vs.getD 0 .any)) (fun r1 r2 => K (GV.tup [CV.p (PV.int .i64 r1), CV.p r2]))
def G26.G : PureG := argG G26.ks (G26.A)
def G27.ks : List AK := [.int .i64]
def G27.A : List PV → Cps GV := fun vs R K => lItoa (intOf (vs.getD 0 .any)) (fun r1 => K (GV.pv (PV.str r1)))
def G27.G : PureG := argG G27.ks (G27.A)
def G39.sh : Shape := ⟨[(0, .fix (CV.ptr 1000 0)), (1, .str)], [(1000, .bld)], []⟩
def G39.A : List PV → (R : Type) → (GV → List (Nat × Ob) → Option R) → Option R := fun vs R K => lWriteString (strOf (vs.getD 1 .any)) (strOf (vs.getD 2 .any)) (fun r1 r2 o3 => K (GV.tup [CV.p (PV.int .i64 r1), CV.p r2]) [(1000, Ob.bld o3)])
def G39.G : HeapG := argH 2 G39.sh (G39.A)
def G40.sh : Shape := ⟨[(0, .fix (CV.ptr 1000 0))], [(1000, .bld)], []⟩
def G40.A : List PV → (R : Type) → (GV → List (Nat × Ob) → Option R) → Option R := fun vs R K => lString (strOf (vs.getD 1 .any)) (fun r1 o2 => K (GV.pv (PV.str r1)) [(1000, Ob.bld o2)])
def G40.G : HeapG := argH 1 G40.sh (G40.A)
def G43.ks : List AK := [.sl 1, .str]
def G43.A : List PV → Cps GV := fun vs R K => lJoin (slOf (vs.getD 0 .any)) (strOf (vs.getD 1 .any)) (fun r1 => K (GV.pv (PV.str r1)))
def G43.G : PureG := argG G43.ks (G43.A)
def G49.sh : Shape := ⟨[(0, .fix (CV.ptr 1000 0)), (1, .int .u8)], [(1000, .bld)], []⟩
def G49.A : List PV → (R : Type) → (GV → List (Nat × Ob) → Option R) → Option R := fun vs R K => lWriteByte (intOf (vs.getD 1 .any)) (strOf (vs.getD 2 .any)) (fun r1 o2 => K (GV.pv (r1)) [(1000, Ob.bld o2)])
def G49.G : HeapG := argH 2 G49.sh (G49.A)
def G66.ks : List AK := [.str, .str]
def G66.A : List PV → Cps GV := fun vs R K => lTrim (strOf (vs.getD 0 .any)) (strOf (vs.getD 1 .any)) (fun r1 => K (GV.pv (PV.str r1)))
def G66.G : PureG := argG G66.ks (G66.A)
def G67.ks : List AK := [.str]
def G67.A : List PV → Cps GV := fun vs R K => lValid (strOf (vs.getD 0 .any)) (fun r1 => K (GV.pv (PV.bool r1)))
def G67.G : PureG := argG G67.ks (G67.A)
def G70.ks : List AK := [.str, .str, .str]
def G70.A : List PV → Cps GV := fun vs R K => lReplaceAll (strOf (vs.getD 0 .any)) (strOf (vs.getD 1 .any)) (strOf (vs.getD 2 .any)) (fun r1 => K (GV.pv (PV.str r1)))
def G70.G : PureG := argG G70.ks (G70.A)
def G90.ks : List AK := [.str]
def G90.A : List PV → Cps GV := fun vs R K => lRuneCount (strOf (vs.getD 0 .any)) (fun r1 => K (GV.pv (PV.int .i64 r1)))
def G90.G : PureG := argG G90.ks (G90.A)
def G115.ks : List AK := [.str, .str]
def G115.A : List PV → Cps GV := fun vs R K => lHasPrefix (strOf (vs.getD 0 .any)) (strOf (vs.getD 1 .any)) (fun r1 => K (GV.pv (PV.bool r1)))
def G115.G : PureG := argG G115.ks (G115.A)
def G143.ks : List AK := [.str, .str]
def G143.A : List PV → Cps GV := fun vs R K => lTrimLeft (strOf (vs.getD 0 .any)) (strOf (vs.getD 1 .any)) (fun r1 => K (GV.pv (PV.str r1)))
def G143.G : PureG := argG G143.ks (G143.A)
def G144.ks : List AK := [.str, .str]
def G144.A : List PV → Cps GV := fun vs R K => lCutPrefix (strOf (vs.getD 0 .any)) (strOf (vs.getD 1 .any)) (fun r1 r2 => K (GV.tup [CV.p (PV.str r1), CV.p (PV.bool r2)]))
def G144.G : PureG := argG G144.ks (G144.A)
end
end Go.Dip
end
/- The shelf's layings of the library's functions that the wire seat calls. Printed by program (wip/tools/lay.py). -/
section
namespace Go.Proofs
open Go.Shelf
def Tryz.lays145_ren : Go.Shelf.Ren := ⟨fun | 145 => 24 | 220 => 44 | 219 => 72 | 217 => 104 | 225 => 105 | 224 => 106 | 267 => 107 | 266 => 133 | 314 => 134 | n => n, fun | 9 => 9 | 4 => 4 | 59 => 58 | 3 => 3 | 5 => 5 | 46 => 136 | 146 => 165 | 51 => 164 | 20 => 20 | n => n, fun | 1 => 2 | n => n⟩
theorem Tryz.lays145 : Go.Proofs.Lays.n145 Tryz.prog Tryz.lays145_ren := {
  mixed := by kernel_rfl,
  f145 := Tryz.func24.trans (congrArg some (by kernel_rfl)),
  f217 := Tryz.func104.trans (congrArg some (by kernel_rfl)),
  f219 := Tryz.func72.trans (congrArg some (by kernel_rfl)),
  f220 := Tryz.func44.trans (congrArg some (by kernel_rfl)),
  f224 := Tryz.func106.trans (congrArg some (by kernel_rfl)),
  f225 := Tryz.func105.trans (congrArg some (by kernel_rfl)),
  f266 := Tryz.func133.trans (congrArg some (by kernel_rfl)),
  f267 := Tryz.func107.trans (congrArg some (by kernel_rfl)),
  f314 := Tryz.func134.trans (congrArg some (by kernel_rfl)),
  t3 := Tryz.underlying3,
  a3 := Tryz.isAgg3,
  z3 := Tryz.sizeOf3,
  v3 := Tryz.zeroValue3,
  t4 := Tryz.underlying4,
  a4 := Tryz.isAgg4,
  z4 := Tryz.sizeOf4,
  v4 := Tryz.zeroValue4,
  t5 := Tryz.underlying5,
  a5 := Tryz.isAgg5,
  z5 := Tryz.sizeOf5,
  v5 := Tryz.zeroValue5,
  t9 := Tryz.underlying9,
  a9 := Tryz.isAgg9,
  z9 := Tryz.sizeOf9,
  v9 := Tryz.zeroValue9,
  t46 := Tryz.underlying136,
  a46 := Tryz.isAgg136,
  z46 := Tryz.sizeOf136,
  v46 := Tryz.zeroValue136,
  t51 := Tryz.underlying164,
  a51 := Tryz.isAgg164,
  z51 := Tryz.sizeOf164,
  v51 := Tryz.zeroValue164,
  t59 := Tryz.underlying58,
  a59 := Tryz.isAgg58,
  z59 := Tryz.sizeOf58,
  v59 := Tryz.zeroValue58,
  t146 := Tryz.underlying165,
  a146 := Tryz.isAgg165,
  z146 := Tryz.sizeOf165,
  v146 := Tryz.zeroValue165,
  g1 := by kernel_rfl }
def Tryz.laysc172_ren : Go.Shelf.Ren := ⟨fun | 172 => 26 | 244 => 45 | 245 => 46 | 247 => 73 | 279 => 74 | 280 => 75 | 281 => 76 | 282 => 77 | 287 => 108 | 316 => 109 | 171 => 27 | 205 => 110 | 321 => 135 | 322 => 136 | 243 => 47 | 246 => 78 | 283 => 111 | 284 => 112 | 285 => 113 | 286 => 114 | 129 => 138 | 317 => 137 | 318 => 139 | 319 => 140 | 320 => 141 | 337 => 154 | 338 => 155 | n => n, fun | 9 => 9 | 3 => 3 | 75 => 62 | 76 => 63 | 4 => 4 | 5 => 5 | 167 => 106 | 37 => 78 | 0 => 0 | 85 => 107 | 2 => 2 | 168 => 109 | 53 => 142 | 175 => 143 | 46 => 136 | 210 => 146 | 127 => 101 | 145 => 170 | 143 => 168 | 21 => 21 | 171 => 148 | 173 => 151 | 212 => 172 | 51 => 164 | 20 => 20 | 213 => 173 | 232 => 182 | 233 => 183 | 80 => 60 | n => n, fun | 15 => 3 | 16 => 4 | 17 => 5 | 18 => 6 | 19 => 7 | n => n⟩
theorem Tryz.laysc172 : Go.Proofs.LaysC.n172 Tryz.prog Tryz.laysc172_ren := {
  mixed := by kernel_rfl,
  f129 := Tryz.func138.trans (congrArg some (by kernel_rfl)),
  f171 := Tryz.func27.trans (congrArg some (by kernel_rfl)),
  f172 := Tryz.func26.trans (congrArg some (by kernel_rfl)),
  f205 := Tryz.func110.trans (congrArg some (by kernel_rfl)),
  f243 := Tryz.func47.trans (congrArg some (by kernel_rfl)),
  f244 := Tryz.func45.trans (congrArg some (by kernel_rfl)),
  f245 := Tryz.func46.trans (congrArg some (by kernel_rfl)),
  f246 := Tryz.func78.trans (congrArg some (by kernel_rfl)),
  f247 := Tryz.func73.trans (congrArg some (by kernel_rfl)),
  f279 := Tryz.func74.trans (congrArg some (by kernel_rfl)),
  f280 := Tryz.func75.trans (congrArg some (by kernel_rfl)),
  f281 := Tryz.func76.trans (congrArg some (by kernel_rfl)),
  f282 := Tryz.func77.trans (congrArg some (by kernel_rfl)),
  f283 := Tryz.func111.trans (congrArg some (by kernel_rfl)),
  f284 := Tryz.func112.trans (congrArg some (by kernel_rfl)),
  f285 := Tryz.func113.trans (congrArg some (by kernel_rfl)),
  f286 := Tryz.func114.trans (congrArg some (by kernel_rfl)),
  f287 := Tryz.func108.trans (congrArg some (by kernel_rfl)),
  f316 := Tryz.func109.trans (congrArg some (by kernel_rfl)),
  f317 := Tryz.func137.trans (congrArg some (by kernel_rfl)),
  f318 := Tryz.func139.trans (congrArg some (by kernel_rfl)),
  f319 := Tryz.func140.trans (congrArg some (by kernel_rfl)),
  f320 := Tryz.func141.trans (congrArg some (by kernel_rfl)),
  f321 := Tryz.func135.trans (congrArg some (by kernel_rfl)),
  f322 := Tryz.func136.trans (congrArg some (by kernel_rfl)),
  f337 := Tryz.func154.trans (congrArg some (by kernel_rfl)),
  f338 := Tryz.func155.trans (congrArg some (by kernel_rfl)),
  t0 := Tryz.underlying0,
  a0 := Tryz.isAgg0,
  z0 := Tryz.sizeOf0,
  v0 := Tryz.zeroValue0,
  t2 := Tryz.underlying2,
  a2 := Tryz.isAgg2,
  z2 := Tryz.sizeOf2,
  v2 := Tryz.zeroValue2,
  t3 := Tryz.underlying3,
  a3 := Tryz.isAgg3,
  z3 := Tryz.sizeOf3,
  v3 := Tryz.zeroValue3,
  t4 := Tryz.underlying4,
  a4 := Tryz.isAgg4,
  z4 := Tryz.sizeOf4,
  v4 := Tryz.zeroValue4,
  t5 := Tryz.underlying5,
  a5 := Tryz.isAgg5,
  z5 := Tryz.sizeOf5,
  v5 := Tryz.zeroValue5,
  t9 := Tryz.underlying9,
  a9 := Tryz.isAgg9,
  z9 := Tryz.sizeOf9,
  v9 := Tryz.zeroValue9,
  t20 := Tryz.underlying20,
  a20 := Tryz.isAgg20,
  z20 := Tryz.sizeOf20,
  v20 := Tryz.zeroValue20,
  t21 := Tryz.underlying21,
  a21 := Tryz.isAgg21,
  z21 := Tryz.sizeOf21,
  v21 := Tryz.zeroValue21,
  t37 := Tryz.underlying78,
  a37 := Tryz.isAgg78,
  z37 := Tryz.sizeOf78,
  v37 := Tryz.zeroValue78,
  t46 := Tryz.underlying136,
  a46 := Tryz.isAgg136,
  z46 := Tryz.sizeOf136,
  v46 := Tryz.zeroValue136,
  t51 := Tryz.underlying164,
  a51 := Tryz.isAgg164,
  z51 := Tryz.sizeOf164,
  v51 := Tryz.zeroValue164,
  t53 := Tryz.underlying142,
  a53 := Tryz.isAgg142,
  z53 := Tryz.sizeOf142,
  v53 := Tryz.zeroValue142,
  t75 := Tryz.underlying62,
  a75 := Tryz.isAgg62,
  z75 := Tryz.sizeOf62,
  v75 := Tryz.zeroValue62,
  t76 := Tryz.underlying63,
  a76 := Tryz.isAgg63,
  z76 := Tryz.sizeOf63,
  v76 := Tryz.zeroValue63,
  t85 := Tryz.underlying107,
  a85 := Tryz.isAgg107,
  z85 := Tryz.sizeOf107,
  v85 := Tryz.zeroValue107,
  t127 := Tryz.underlying101,
  a127 := Tryz.isAgg101,
  z127 := Tryz.sizeOf101,
  v127 := Tryz.zeroValue101,
  t143 := Tryz.underlying168,
  a143 := Tryz.isAgg168,
  z143 := Tryz.sizeOf168,
  v143 := Tryz.zeroValue168,
  t145 := Tryz.underlying170,
  a145 := Tryz.isAgg170,
  z145 := Tryz.sizeOf170,
  v145 := Tryz.zeroValue170,
  t167 := Tryz.underlying106,
  a167 := Tryz.isAgg106,
  z167 := Tryz.sizeOf106,
  v167 := Tryz.zeroValue106,
  t168 := Tryz.underlying109,
  a168 := Tryz.isAgg109,
  z168 := Tryz.sizeOf109,
  v168 := Tryz.zeroValue109,
  t171 := Tryz.underlying148,
  a171 := Tryz.isAgg148,
  z171 := Tryz.sizeOf148,
  v171 := Tryz.zeroValue148,
  t173 := Tryz.underlying151,
  a173 := Tryz.isAgg151,
  z173 := Tryz.sizeOf151,
  v173 := Tryz.zeroValue151,
  t175 := Tryz.underlying143,
  a175 := Tryz.isAgg143,
  z175 := Tryz.sizeOf143,
  v175 := Tryz.zeroValue143,
  t210 := Tryz.underlying146,
  a210 := Tryz.isAgg146,
  z210 := Tryz.sizeOf146,
  v210 := Tryz.zeroValue146,
  t212 := Tryz.underlying172,
  a212 := Tryz.isAgg172,
  z212 := Tryz.sizeOf172,
  v212 := Tryz.zeroValue172,
  t213 := Tryz.underlying173,
  a213 := Tryz.isAgg173,
  z213 := Tryz.sizeOf173,
  t232 := Tryz.underlying182,
  a232 := Tryz.isAgg182,
  z232 := Tryz.sizeOf182,
  v232 := Tryz.zeroValue182,
  t233 := Tryz.underlying183,
  a233 := Tryz.isAgg183,
  z233 := Tryz.sizeOf183,
  v233 := Tryz.zeroValue183,
  g15 := by kernel_rfl,
  g16 := by kernel_rfl,
  g17 := by kernel_rfl,
  g18 := by kernel_rfl,
  g19 := by kernel_rfl,
  t80 := Tryz.underlying60,
  a80 := Tryz.isAgg60,
  z80 := Tryz.sizeOf60,
  v80 := Tryz.zeroValue60,
  i0 := by kernel_rfl,
  i2 := by kernel_rfl,
  i3 := by kernel_rfl,
  i4 := by kernel_rfl,
  i5 := by kernel_rfl,
  i9 := by kernel_rfl,
  i20 := by kernel_rfl,
  i21 := by kernel_rfl,
  i37 := by kernel_rfl,
  i46 := by kernel_rfl,
  i51 := by kernel_rfl,
  i53 := by kernel_rfl,
  i75 := by kernel_rfl,
  i76 := by kernel_rfl,
  i80 := by kernel_rfl,
  i85 := by kernel_rfl,
  i127 := by kernel_rfl,
  i143 := by kernel_rfl,
  i145 := by kernel_rfl,
  i167 := by kernel_rfl,
  i168 := by kernel_rfl,
  i171 := by kernel_rfl,
  i173 := by kernel_rfl,
  i175 := by kernel_rfl,
  i210 := by kernel_rfl,
  i212 := by kernel_rfl,
  i232 := by kernel_rfl,
  i233 := by kernel_rfl,
  m15 := by kernel_rfl,
  m16 := by kernel_rfl,
  m17 := by kernel_rfl,
  m18 := by kernel_rfl,
  m19 := by kernel_rfl,
  c0 := by kernel_rfl,
  c2 := by kernel_rfl,
  c3 := by kernel_rfl,
  c4 := by kernel_rfl,
  c5 := by kernel_rfl,
  c9 := by kernel_rfl,
  c20 := by kernel_rfl,
  c21 := by kernel_rfl,
  c37 := by kernel_rfl,
  c46 := by kernel_rfl,
  c51 := by kernel_rfl,
  c53 := by kernel_rfl,
  c75 := by kernel_rfl,
  c76 := by kernel_rfl,
  c80 := by kernel_rfl,
  c85 := by kernel_rfl,
  c127 := by kernel_rfl,
  c143 := by kernel_rfl,
  c145 := by kernel_rfl,
  c167 := by kernel_rfl,
  c168 := by kernel_rfl,
  c171 := by kernel_rfl,
  c173 := by kernel_rfl,
  c175 := by kernel_rfl,
  c210 := by kernel_rfl,
  c212 := by kernel_rfl,
  c213 := by kernel_rfl,
  c232 := by kernel_rfl,
  c233 := by kernel_rfl }
def Tryz.laysm171_ren : Go.Shelf.Ren := ⟨fun | 171 => 27 | 243 => 47 | 246 => 78 | 283 => 111 | 284 => 112 | 285 => 113 | 286 => 114 | 129 => 138 | 317 => 137 | 318 => 139 | 319 => 140 | 320 => 141 | 337 => 154 | 338 => 155 | n => n, fun | 3 => 3 | 9 => 9 | 2 => 2 | 4 => 4 | 171 => 148 | 0 => 0 | 53 => 142 | 37 => 78 | 5 => 5 | 173 => 151 | 212 => 172 | 51 => 164 | 20 => 20 | 213 => 173 | 46 => 136 | 232 => 182 | 233 => 183 | n => n, fun | 17 => 5 | 18 => 6 | 19 => 7 | n => n⟩
theorem Tryz.laysm171 : Go.Proofs.LaysM.n171 Tryz.prog Tryz.laysm171_ren := {
  mixed := by kernel_rfl,
  f129 := Tryz.func138.trans (congrArg some (by kernel_rfl)),
  f171 := Tryz.func27.trans (congrArg some (by kernel_rfl)),
  f243 := Tryz.func47.trans (congrArg some (by kernel_rfl)),
  f246 := Tryz.func78.trans (congrArg some (by kernel_rfl)),
  f283 := Tryz.func111.trans (congrArg some (by kernel_rfl)),
  f284 := Tryz.func112.trans (congrArg some (by kernel_rfl)),
  f285 := Tryz.func113.trans (congrArg some (by kernel_rfl)),
  f286 := Tryz.func114.trans (congrArg some (by kernel_rfl)),
  f317 := Tryz.func137.trans (congrArg some (by kernel_rfl)),
  f318 := Tryz.func139.trans (congrArg some (by kernel_rfl)),
  f319 := Tryz.func140.trans (congrArg some (by kernel_rfl)),
  f320 := Tryz.func141.trans (congrArg some (by kernel_rfl)),
  f337 := Tryz.func154.trans (congrArg some (by kernel_rfl)),
  f338 := Tryz.func155.trans (congrArg some (by kernel_rfl)),
  t0 := Tryz.underlying0,
  a0 := Tryz.isAgg0,
  z0 := Tryz.sizeOf0,
  v0 := Tryz.zeroValue0,
  t2 := Tryz.underlying2,
  a2 := Tryz.isAgg2,
  z2 := Tryz.sizeOf2,
  v2 := Tryz.zeroValue2,
  t3 := Tryz.underlying3,
  a3 := Tryz.isAgg3,
  z3 := Tryz.sizeOf3,
  v3 := Tryz.zeroValue3,
  t4 := Tryz.underlying4,
  a4 := Tryz.isAgg4,
  z4 := Tryz.sizeOf4,
  v4 := Tryz.zeroValue4,
  t5 := Tryz.underlying5,
  a5 := Tryz.isAgg5,
  z5 := Tryz.sizeOf5,
  v5 := Tryz.zeroValue5,
  t9 := Tryz.underlying9,
  a9 := Tryz.isAgg9,
  z9 := Tryz.sizeOf9,
  v9 := Tryz.zeroValue9,
  t20 := Tryz.underlying20,
  a20 := Tryz.isAgg20,
  z20 := Tryz.sizeOf20,
  v20 := Tryz.zeroValue20,
  t37 := Tryz.underlying78,
  a37 := Tryz.isAgg78,
  z37 := Tryz.sizeOf78,
  v37 := Tryz.zeroValue78,
  t46 := Tryz.underlying136,
  a46 := Tryz.isAgg136,
  z46 := Tryz.sizeOf136,
  v46 := Tryz.zeroValue136,
  t51 := Tryz.underlying164,
  a51 := Tryz.isAgg164,
  z51 := Tryz.sizeOf164,
  v51 := Tryz.zeroValue164,
  t53 := Tryz.underlying142,
  a53 := Tryz.isAgg142,
  z53 := Tryz.sizeOf142,
  v53 := Tryz.zeroValue142,
  t171 := Tryz.underlying148,
  a171 := Tryz.isAgg148,
  z171 := Tryz.sizeOf148,
  v171 := Tryz.zeroValue148,
  t173 := Tryz.underlying151,
  a173 := Tryz.isAgg151,
  z173 := Tryz.sizeOf151,
  v173 := Tryz.zeroValue151,
  t212 := Tryz.underlying172,
  a212 := Tryz.isAgg172,
  z212 := Tryz.sizeOf172,
  v212 := Tryz.zeroValue172,
  t213 := Tryz.underlying173,
  a213 := Tryz.isAgg173,
  z213 := Tryz.sizeOf173,
  t232 := Tryz.underlying182,
  a232 := Tryz.isAgg182,
  z232 := Tryz.sizeOf182,
  v232 := Tryz.zeroValue182,
  t233 := Tryz.underlying183,
  a233 := Tryz.isAgg183,
  z233 := Tryz.sizeOf183,
  v233 := Tryz.zeroValue183,
  g17 := by kernel_rfl,
  g18 := by kernel_rfl,
  g19 := by kernel_rfl,
  i0 := by kernel_rfl,
  i2 := by kernel_rfl,
  i3 := by kernel_rfl,
  i4 := by kernel_rfl,
  i5 := by kernel_rfl,
  i9 := by kernel_rfl,
  i20 := by kernel_rfl,
  i37 := by kernel_rfl,
  i46 := by kernel_rfl,
  i51 := by kernel_rfl,
  i53 := by kernel_rfl,
  i171 := by kernel_rfl,
  i173 := by kernel_rfl,
  i212 := by kernel_rfl,
  i232 := by kernel_rfl,
  i233 := by kernel_rfl,
  m17 := by kernel_rfl,
  m18 := by kernel_rfl,
  m19 := by kernel_rfl }
def Tryz.lays166_ren : Go.Shelf.Ren := ⟨fun | 166 => 39 | 240 => 68 | 276 => 100 | n => n, fun | 70 => 77 | 9 => 9 | 3 => 3 | 75 => 62 | 0 => 0 | 72 => 80 | 37 => 78 | 4 => 4 | 164 => 137 | 80 => 60 | 5 => 5 | 20 => 20 | n => n, fun | n => n⟩
theorem Tryz.lays166 : Go.Proofs.Lays.n166 Tryz.prog Tryz.lays166_ren := {
  mixed := by kernel_rfl,
  f166 := Tryz.func39.trans (congrArg some (by kernel_rfl)),
  f240 := Tryz.func68.trans (congrArg some (by kernel_rfl)),
  f276 := Tryz.func100.trans (congrArg some (by kernel_rfl)),
  t0 := Tryz.underlying0,
  a0 := Tryz.isAgg0,
  z0 := Tryz.sizeOf0,
  v0 := Tryz.zeroValue0,
  t3 := Tryz.underlying3,
  a3 := Tryz.isAgg3,
  z3 := Tryz.sizeOf3,
  v3 := Tryz.zeroValue3,
  t4 := Tryz.underlying4,
  a4 := Tryz.isAgg4,
  z4 := Tryz.sizeOf4,
  v4 := Tryz.zeroValue4,
  t9 := Tryz.underlying9,
  a9 := Tryz.isAgg9,
  z9 := Tryz.sizeOf9,
  v9 := Tryz.zeroValue9,
  t20 := Tryz.underlying20,
  a20 := Tryz.isAgg20,
  z20 := Tryz.sizeOf20,
  v20 := Tryz.zeroValue20,
  t37 := Tryz.underlying78,
  a37 := Tryz.isAgg78,
  z37 := Tryz.sizeOf78,
  v37 := Tryz.zeroValue78,
  t70 := Tryz.underlying77,
  a70 := Tryz.isAgg77,
  z70 := Tryz.sizeOf77,
  v70 := Tryz.zeroValue77,
  t72 := Tryz.underlying80,
  a72 := Tryz.isAgg80,
  z72 := Tryz.sizeOf80,
  v72 := Tryz.zeroValue80,
  t75 := Tryz.underlying62,
  a75 := Tryz.isAgg62,
  z75 := Tryz.sizeOf62,
  v75 := Tryz.zeroValue62,
  t164 := Tryz.underlying137,
  a164 := Tryz.isAgg137,
  z164 := Tryz.sizeOf137,
  v164 := Tryz.zeroValue137 }
theorem Tryz.extra166 : Builder.Extra Tryz.prog Tryz.lays166_ren := {
  sizeBuilder := by kernel_rfl,
  liesBuilder := by kernel_rfl,
  t5 := Tryz.underlying5,
  a5 := Tryz.isAgg5,
  z5 := Tryz.sizeOf5,
  v5 := Tryz.zeroValue5,
  infoByte := by kernel_rfl,
  cellsByte := by kernel_rfl,
  sizeByte := by kernel_rfl,
  neB5 := by decide }
def Tryz.lays167_ren : Go.Shelf.Ren := ⟨fun | 167 => 49 | 240 => 68 | 276 => 100 | n => n, fun | 70 => 77 | 5 => 5 | 75 => 62 | 0 => 0 | 72 => 80 | 37 => 78 | 4 => 4 | 164 => 137 | 80 => 60 | 9 => 9 | 20 => 20 | n => n, fun | n => n⟩
theorem Tryz.lays167 : Go.Proofs.Lays.n167 Tryz.prog Tryz.lays167_ren := {
  mixed := by kernel_rfl,
  f167 := Tryz.func49.trans (congrArg some (by kernel_rfl)),
  f240 := Tryz.func68.trans (congrArg some (by kernel_rfl)),
  f276 := Tryz.func100.trans (congrArg some (by kernel_rfl)),
  t0 := Tryz.underlying0,
  a0 := Tryz.isAgg0,
  z0 := Tryz.sizeOf0,
  v0 := Tryz.zeroValue0,
  t4 := Tryz.underlying4,
  a4 := Tryz.isAgg4,
  z4 := Tryz.sizeOf4,
  v4 := Tryz.zeroValue4,
  t5 := Tryz.underlying5,
  a5 := Tryz.isAgg5,
  z5 := Tryz.sizeOf5,
  v5 := Tryz.zeroValue5,
  t9 := Tryz.underlying9,
  a9 := Tryz.isAgg9,
  z9 := Tryz.sizeOf9,
  v9 := Tryz.zeroValue9,
  t20 := Tryz.underlying20,
  a20 := Tryz.isAgg20,
  z20 := Tryz.sizeOf20,
  v20 := Tryz.zeroValue20,
  t37 := Tryz.underlying78,
  a37 := Tryz.isAgg78,
  z37 := Tryz.sizeOf78,
  v37 := Tryz.zeroValue78,
  t70 := Tryz.underlying77,
  a70 := Tryz.isAgg77,
  z70 := Tryz.sizeOf77,
  v70 := Tryz.zeroValue77,
  t72 := Tryz.underlying80,
  a72 := Tryz.isAgg80,
  z72 := Tryz.sizeOf80,
  v72 := Tryz.zeroValue80,
  t75 := Tryz.underlying62,
  a75 := Tryz.isAgg62,
  z75 := Tryz.sizeOf62,
  v75 := Tryz.zeroValue62,
  t164 := Tryz.underlying137,
  a164 := Tryz.isAgg137,
  z164 := Tryz.sizeOf137,
  v164 := Tryz.zeroValue137 }
theorem Tryz.extra167 : Builder.Extra Tryz.prog Tryz.lays167_ren := {
  sizeBuilder := by kernel_rfl,
  liesBuilder := by kernel_rfl,
  t5 := Tryz.underlying5,
  a5 := Tryz.isAgg5,
  z5 := Tryz.sizeOf5,
  v5 := Tryz.zeroValue5,
  infoByte := by kernel_rfl,
  cellsByte := by kernel_rfl,
  sizeByte := by kernel_rfl,
  neB5 := by decide }
def Tryz.lays169_ren : Go.Shelf.Ren := ⟨fun | 169 => 40 | n => n, fun | 70 => 77 | 9 => 9 | 0 => 0 | 72 => 80 | 37 => 78 | 127 => 101 | 3 => 3 | 5 => 5 | 20 => 20 | n => n, fun | n => n⟩
theorem Tryz.lays169 : Go.Proofs.Lays.n169 Tryz.prog Tryz.lays169_ren := {
  mixed := by kernel_rfl,
  f169 := Tryz.func40.trans (congrArg some (by kernel_rfl)),
  t0 := Tryz.underlying0,
  a0 := Tryz.isAgg0,
  z0 := Tryz.sizeOf0,
  v0 := Tryz.zeroValue0,
  t3 := Tryz.underlying3,
  a3 := Tryz.isAgg3,
  z3 := Tryz.sizeOf3,
  v3 := Tryz.zeroValue3,
  t9 := Tryz.underlying9,
  a9 := Tryz.isAgg9,
  z9 := Tryz.sizeOf9,
  v9 := Tryz.zeroValue9,
  t37 := Tryz.underlying78,
  a37 := Tryz.isAgg78,
  z37 := Tryz.sizeOf78,
  v37 := Tryz.zeroValue78,
  t70 := Tryz.underlying77,
  a70 := Tryz.isAgg77,
  z70 := Tryz.sizeOf77,
  v70 := Tryz.zeroValue77,
  t72 := Tryz.underlying80,
  a72 := Tryz.isAgg80,
  z72 := Tryz.sizeOf80,
  v72 := Tryz.zeroValue80,
  t127 := Tryz.underlying101,
  a127 := Tryz.isAgg101,
  z127 := Tryz.sizeOf101,
  v127 := Tryz.zeroValue101 }
theorem Tryz.extra169 : Builder.Extra Tryz.prog Tryz.lays169_ren := {
  sizeBuilder := by kernel_rfl,
  liesBuilder := by kernel_rfl,
  t5 := Tryz.underlying5,
  a5 := Tryz.isAgg5,
  z5 := Tryz.sizeOf5,
  v5 := Tryz.zeroValue5,
  infoByte := by kernel_rfl,
  cellsByte := by kernel_rfl,
  sizeByte := by kernel_rfl,
  neB5 := by decide }
def Tryz.lays156_ren : Go.Shelf.Ren := ⟨fun | 156 => 43 | 165 => 71 | 166 => 39 | 169 => 40 | 240 => 68 | 241 => 103 | 276 => 100 | 277 => 132 | n => n, fun | 31 => 51 | 9 => 9 | 3 => 3 | 4 => 4 | 0 => 0 | 20 => 20 | 72 => 80 | 76 => 63 | 70 => 77 | 37 => 78 | 75 => 62 | 127 => 101 | 164 => 137 | 5 => 5 | 80 => 60 | n => n, fun | n => n⟩
theorem Tryz.lays156 : Go.Proofs.Lays.n156 Tryz.prog Tryz.lays156_ren := {
  mixed := by kernel_rfl,
  f156 := Tryz.func43.trans (congrArg some (by kernel_rfl)),
  f165 := Tryz.func71.trans (congrArg some (by kernel_rfl)),
  f166 := Tryz.func39.trans (congrArg some (by kernel_rfl)),
  f169 := Tryz.func40.trans (congrArg some (by kernel_rfl)),
  f240 := Tryz.func68.trans (congrArg some (by kernel_rfl)),
  f241 := Tryz.func103.trans (congrArg some (by kernel_rfl)),
  f276 := Tryz.func100.trans (congrArg some (by kernel_rfl)),
  f277 := Tryz.func132.trans (congrArg some (by kernel_rfl)),
  t0 := Tryz.underlying0,
  a0 := Tryz.isAgg0,
  z0 := Tryz.sizeOf0,
  v0 := Tryz.zeroValue0,
  t3 := Tryz.underlying3,
  a3 := Tryz.isAgg3,
  z3 := Tryz.sizeOf3,
  v3 := Tryz.zeroValue3,
  t4 := Tryz.underlying4,
  a4 := Tryz.isAgg4,
  z4 := Tryz.sizeOf4,
  v4 := Tryz.zeroValue4,
  t9 := Tryz.underlying9,
  a9 := Tryz.isAgg9,
  z9 := Tryz.sizeOf9,
  v9 := Tryz.zeroValue9,
  t20 := Tryz.underlying20,
  a20 := Tryz.isAgg20,
  z20 := Tryz.sizeOf20,
  v20 := Tryz.zeroValue20,
  t31 := Tryz.underlying51,
  a31 := Tryz.isAgg51,
  z31 := Tryz.sizeOf51,
  v31 := Tryz.zeroValue51,
  t37 := Tryz.underlying78,
  a37 := Tryz.isAgg78,
  z37 := Tryz.sizeOf78,
  v37 := Tryz.zeroValue78,
  t70 := Tryz.underlying77,
  a70 := Tryz.isAgg77,
  z70 := Tryz.sizeOf77,
  v70 := Tryz.zeroValue77,
  t72 := Tryz.underlying80,
  a72 := Tryz.isAgg80,
  z72 := Tryz.sizeOf80,
  v72 := Tryz.zeroValue80,
  t75 := Tryz.underlying62,
  a75 := Tryz.isAgg62,
  z75 := Tryz.sizeOf62,
  v75 := Tryz.zeroValue62,
  t76 := Tryz.underlying63,
  a76 := Tryz.isAgg63,
  z76 := Tryz.sizeOf63,
  v76 := Tryz.zeroValue63,
  t127 := Tryz.underlying101,
  a127 := Tryz.isAgg101,
  z127 := Tryz.sizeOf101,
  v127 := Tryz.zeroValue101,
  t164 := Tryz.underlying137,
  a164 := Tryz.isAgg137,
  z164 := Tryz.sizeOf137,
  v164 := Tryz.zeroValue137 }
theorem Tryz.extra156 : Builder.Extra Tryz.prog Tryz.lays156_ren := {
  sizeBuilder := by kernel_rfl,
  liesBuilder := by kernel_rfl,
  t5 := Tryz.underlying5,
  a5 := Tryz.isAgg5,
  z5 := Tryz.sizeOf5,
  v5 := Tryz.zeroValue5,
  infoByte := by kernel_rfl,
  cellsByte := by kernel_rfl,
  sizeByte := by kernel_rfl,
  neB5 := by decide }
def Tryz.lays160_ren : Go.Shelf.Ren := ⟨fun | 160 => 66 | 232 => 93 | 231 => 92 | 227 => 94 | 234 => 96 | 233 => 95 | 236 => 98 | 235 => 97 | 228 => 126 | 271 => 129 | 151 => 128 | 197 => 127 | 120 => 152 | 152 => 151 | 260 => 150 | 137 => 157 | 119 => 158 | 224 => 106 | 225 => 105 | 217 => 104 | 266 => 133 | n => n, fun | 9 => 9 | 4 => 4 | 3 => 3 | 5 => 5 | 117 => 127 | 116 => 126 | 0 => 0 | 124 => 130 | 21 => 21 | 105 => 160 | 46 => 136 | 119 => 132 | 139 => 135 | 138 => 134 | 20 => 20 | n => n, fun | 3 => 0 | 4 => 1 | n => n⟩
theorem Tryz.lays160 : Go.Proofs.Lays.n160 Tryz.prog Tryz.lays160_ren := {
  mixed := by kernel_rfl,
  f119 := Tryz.func158.trans (congrArg some (by kernel_rfl)),
  f120 := Tryz.func152.trans (congrArg some (by kernel_rfl)),
  f137 := Tryz.func157.trans (congrArg some (by kernel_rfl)),
  f151 := Tryz.func128.trans (congrArg some (by kernel_rfl)),
  f152 := Tryz.func151.trans (congrArg some (by kernel_rfl)),
  f160 := Tryz.func66.trans (congrArg some (by kernel_rfl)),
  f197 := Tryz.func127.trans (congrArg some (by kernel_rfl)),
  f217 := Tryz.func104.trans (congrArg some (by kernel_rfl)),
  f224 := Tryz.func106.trans (congrArg some (by kernel_rfl)),
  f225 := Tryz.func105.trans (congrArg some (by kernel_rfl)),
  f227 := Tryz.func94.trans (congrArg some (by kernel_rfl)),
  f228 := Tryz.func126.trans (congrArg some (by kernel_rfl)),
  f231 := Tryz.func92.trans (congrArg some (by kernel_rfl)),
  f232 := Tryz.func93.trans (congrArg some (by kernel_rfl)),
  f233 := Tryz.func95.trans (congrArg some (by kernel_rfl)),
  f234 := Tryz.func96.trans (congrArg some (by kernel_rfl)),
  f235 := Tryz.func97.trans (congrArg some (by kernel_rfl)),
  f236 := Tryz.func98.trans (congrArg some (by kernel_rfl)),
  f260 := Tryz.func150.trans (congrArg some (by kernel_rfl)),
  f266 := Tryz.func133.trans (congrArg some (by kernel_rfl)),
  f271 := Tryz.func129.trans (congrArg some (by kernel_rfl)),
  t0 := Tryz.underlying0,
  a0 := Tryz.isAgg0,
  z0 := Tryz.sizeOf0,
  v0 := Tryz.zeroValue0,
  t3 := Tryz.underlying3,
  a3 := Tryz.isAgg3,
  z3 := Tryz.sizeOf3,
  v3 := Tryz.zeroValue3,
  t4 := Tryz.underlying4,
  a4 := Tryz.isAgg4,
  z4 := Tryz.sizeOf4,
  v4 := Tryz.zeroValue4,
  t5 := Tryz.underlying5,
  a5 := Tryz.isAgg5,
  z5 := Tryz.sizeOf5,
  v5 := Tryz.zeroValue5,
  t9 := Tryz.underlying9,
  a9 := Tryz.isAgg9,
  z9 := Tryz.sizeOf9,
  v9 := Tryz.zeroValue9,
  t21 := Tryz.underlying21,
  a21 := Tryz.isAgg21,
  z21 := Tryz.sizeOf21,
  v21 := Tryz.zeroValue21,
  t46 := Tryz.underlying136,
  a46 := Tryz.isAgg136,
  z46 := Tryz.sizeOf136,
  v46 := Tryz.zeroValue136,
  t105 := Tryz.underlying160,
  a105 := Tryz.isAgg160,
  z105 := Tryz.sizeOf160,
  v105 := Tryz.zeroValue160,
  t116 := Tryz.underlying126,
  a116 := Tryz.isAgg126,
  z116 := Tryz.sizeOf126,
  t117 := Tryz.underlying127,
  a117 := Tryz.isAgg127,
  z117 := Tryz.sizeOf127,
  v117 := Tryz.zeroValue127,
  t119 := Tryz.underlying132,
  a119 := Tryz.isAgg132,
  z119 := Tryz.sizeOf132,
  t124 := Tryz.underlying130,
  a124 := Tryz.isAgg130,
  z124 := Tryz.sizeOf130,
  v124 := Tryz.zeroValue130,
  t138 := Tryz.underlying134,
  a138 := Tryz.isAgg134,
  z138 := Tryz.sizeOf134,
  v138 := Tryz.zeroValue134,
  t139 := Tryz.underlying135,
  a139 := Tryz.isAgg135,
  z139 := Tryz.sizeOf135,
  v139 := Tryz.zeroValue135,
  g3 := by kernel_rfl,
  g4 := by kernel_rfl }
def Tryz.lays161_ren : Go.Shelf.Ren := ⟨fun | 161 => 143 | 231 => 92 | 227 => 94 | 233 => 95 | 235 => 97 | 228 => 126 | 197 => 127 | 151 => 128 | 260 => 150 | 152 => 151 | 137 => 157 | 119 => 158 | 224 => 106 | 225 => 105 | 217 => 104 | 266 => 133 | n => n, fun | 9 => 9 | 4 => 4 | 3 => 3 | 5 => 5 | 117 => 127 | 116 => 126 | 0 => 0 | 124 => 130 | 105 => 160 | 21 => 21 | 119 => 132 | 46 => 136 | 139 => 135 | 138 => 134 | 20 => 20 | n => n, fun | 3 => 0 | 4 => 1 | n => n⟩
theorem Tryz.lays161 : Go.Proofs.Lays.n161 Tryz.prog Tryz.lays161_ren := {
  mixed := by kernel_rfl,
  f119 := Tryz.func158.trans (congrArg some (by kernel_rfl)),
  f137 := Tryz.func157.trans (congrArg some (by kernel_rfl)),
  f151 := Tryz.func128.trans (congrArg some (by kernel_rfl)),
  f152 := Tryz.func151.trans (congrArg some (by kernel_rfl)),
  f161 := Tryz.func143.trans (congrArg some (by kernel_rfl)),
  f197 := Tryz.func127.trans (congrArg some (by kernel_rfl)),
  f217 := Tryz.func104.trans (congrArg some (by kernel_rfl)),
  f224 := Tryz.func106.trans (congrArg some (by kernel_rfl)),
  f225 := Tryz.func105.trans (congrArg some (by kernel_rfl)),
  f227 := Tryz.func94.trans (congrArg some (by kernel_rfl)),
  f228 := Tryz.func126.trans (congrArg some (by kernel_rfl)),
  f231 := Tryz.func92.trans (congrArg some (by kernel_rfl)),
  f233 := Tryz.func95.trans (congrArg some (by kernel_rfl)),
  f235 := Tryz.func97.trans (congrArg some (by kernel_rfl)),
  f260 := Tryz.func150.trans (congrArg some (by kernel_rfl)),
  f266 := Tryz.func133.trans (congrArg some (by kernel_rfl)),
  t0 := Tryz.underlying0,
  a0 := Tryz.isAgg0,
  z0 := Tryz.sizeOf0,
  v0 := Tryz.zeroValue0,
  t3 := Tryz.underlying3,
  a3 := Tryz.isAgg3,
  z3 := Tryz.sizeOf3,
  v3 := Tryz.zeroValue3,
  t4 := Tryz.underlying4,
  a4 := Tryz.isAgg4,
  z4 := Tryz.sizeOf4,
  v4 := Tryz.zeroValue4,
  t5 := Tryz.underlying5,
  a5 := Tryz.isAgg5,
  z5 := Tryz.sizeOf5,
  v5 := Tryz.zeroValue5,
  t9 := Tryz.underlying9,
  a9 := Tryz.isAgg9,
  z9 := Tryz.sizeOf9,
  v9 := Tryz.zeroValue9,
  t21 := Tryz.underlying21,
  a21 := Tryz.isAgg21,
  z21 := Tryz.sizeOf21,
  v21 := Tryz.zeroValue21,
  t46 := Tryz.underlying136,
  a46 := Tryz.isAgg136,
  z46 := Tryz.sizeOf136,
  v46 := Tryz.zeroValue136,
  t105 := Tryz.underlying160,
  a105 := Tryz.isAgg160,
  z105 := Tryz.sizeOf160,
  v105 := Tryz.zeroValue160,
  t116 := Tryz.underlying126,
  a116 := Tryz.isAgg126,
  z116 := Tryz.sizeOf126,
  t117 := Tryz.underlying127,
  a117 := Tryz.isAgg127,
  z117 := Tryz.sizeOf127,
  v117 := Tryz.zeroValue127,
  t119 := Tryz.underlying132,
  a119 := Tryz.isAgg132,
  z119 := Tryz.sizeOf132,
  t124 := Tryz.underlying130,
  a124 := Tryz.isAgg130,
  z124 := Tryz.sizeOf130,
  v124 := Tryz.zeroValue130,
  t138 := Tryz.underlying134,
  a138 := Tryz.isAgg134,
  z138 := Tryz.sizeOf134,
  v138 := Tryz.zeroValue134,
  t139 := Tryz.underlying135,
  a139 := Tryz.isAgg135,
  z139 := Tryz.sizeOf135,
  v139 := Tryz.zeroValue135,
  g3 := by kernel_rfl,
  g4 := by kernel_rfl }
def Tryz.lays196_ren : Go.Shelf.Ren := ⟨fun | 196 => 67 | 259 => 99 | n => n, fun | 9 => 9 | 4 => 4 | 3 => 3 | 5 => 5 | 12 => 12 | 119 => 132 | 0 => 0 | 46 => 136 | 139 => 135 | 138 => 134 | 53 => 142 | 20 => 20 | n => n, fun | 3 => 0 | 4 => 1 | n => n⟩
theorem Tryz.lays196 : Go.Proofs.Lays.n196 Tryz.prog Tryz.lays196_ren := {
  mixed := by kernel_rfl,
  f196 := Tryz.func67.trans (congrArg some (by kernel_rfl)),
  f259 := Tryz.func99.trans (congrArg some (by kernel_rfl)),
  t0 := Tryz.underlying0,
  a0 := Tryz.isAgg0,
  z0 := Tryz.sizeOf0,
  v0 := Tryz.zeroValue0,
  t3 := Tryz.underlying3,
  a3 := Tryz.isAgg3,
  z3 := Tryz.sizeOf3,
  v3 := Tryz.zeroValue3,
  t4 := Tryz.underlying4,
  a4 := Tryz.isAgg4,
  z4 := Tryz.sizeOf4,
  v4 := Tryz.zeroValue4,
  t5 := Tryz.underlying5,
  a5 := Tryz.isAgg5,
  z5 := Tryz.sizeOf5,
  v5 := Tryz.zeroValue5,
  t9 := Tryz.underlying9,
  a9 := Tryz.isAgg9,
  z9 := Tryz.sizeOf9,
  v9 := Tryz.zeroValue9,
  t12 := Tryz.underlying12,
  a12 := Tryz.isAgg12,
  z12 := Tryz.sizeOf12,
  v12 := Tryz.zeroValue12,
  t46 := Tryz.underlying136,
  a46 := Tryz.isAgg136,
  z46 := Tryz.sizeOf136,
  v46 := Tryz.zeroValue136,
  t53 := Tryz.underlying142,
  a53 := Tryz.isAgg142,
  z53 := Tryz.sizeOf142,
  v53 := Tryz.zeroValue142,
  t119 := Tryz.underlying132,
  a119 := Tryz.isAgg132,
  z119 := Tryz.sizeOf132,
  t138 := Tryz.underlying134,
  a138 := Tryz.isAgg134,
  z138 := Tryz.sizeOf134,
  v138 := Tryz.zeroValue134,
  t139 := Tryz.underlying135,
  a139 := Tryz.isAgg135,
  z139 := Tryz.sizeOf135,
  v139 := Tryz.zeroValue135,
  g3 := by kernel_rfl,
  g4 := by kernel_rfl }
def Tryz.lays155_ren : Go.Shelf.Ren := ⟨fun | 155 => 70 | 154 => 102 | 138 => 130 | 165 => 71 | 143 => 131 | 166 => 39 | 197 => 127 | 169 => 40 | 195 => 90 | 218 => 153 | 240 => 68 | 241 => 103 | 219 => 72 | 260 => 150 | 276 => 100 | 277 => 132 | 217 => 104 | 225 => 105 | 224 => 106 | 267 => 107 | 266 => 133 | 314 => 134 | n => n, fun | 9 => 9 | 3 => 3 | 4 => 4 | 72 => 80 | 0 => 0 | 76 => 63 | 105 => 160 | 21 => 21 | 5 => 5 | 70 => 77 | 20 => 20 | 37 => 78 | 75 => 62 | 127 => 101 | 164 => 137 | 46 => 136 | 119 => 132 | 139 => 135 | 138 => 134 | 146 => 165 | 51 => 164 | 80 => 60 | n => n, fun | 1 => 2 | 3 => 0 | 4 => 1 | n => n⟩
theorem Tryz.lays155 : Go.Proofs.Lays.n155 Tryz.prog Tryz.lays155_ren := {
  mixed := by kernel_rfl,
  f138 := Tryz.func130.trans (congrArg some (by kernel_rfl)),
  f143 := Tryz.func131.trans (congrArg some (by kernel_rfl)),
  f154 := Tryz.func102.trans (congrArg some (by kernel_rfl)),
  f155 := Tryz.func70.trans (congrArg some (by kernel_rfl)),
  f165 := Tryz.func71.trans (congrArg some (by kernel_rfl)),
  f166 := Tryz.func39.trans (congrArg some (by kernel_rfl)),
  f169 := Tryz.func40.trans (congrArg some (by kernel_rfl)),
  f195 := Tryz.func90.trans (congrArg some (by kernel_rfl)),
  f197 := Tryz.func127.trans (congrArg some (by kernel_rfl)),
  f217 := Tryz.func104.trans (congrArg some (by kernel_rfl)),
  f218 := Tryz.func153.trans (congrArg some (by kernel_rfl)),
  f219 := Tryz.func72.trans (congrArg some (by kernel_rfl)),
  f224 := Tryz.func106.trans (congrArg some (by kernel_rfl)),
  f225 := Tryz.func105.trans (congrArg some (by kernel_rfl)),
  f240 := Tryz.func68.trans (congrArg some (by kernel_rfl)),
  f241 := Tryz.func103.trans (congrArg some (by kernel_rfl)),
  f260 := Tryz.func150.trans (congrArg some (by kernel_rfl)),
  f266 := Tryz.func133.trans (congrArg some (by kernel_rfl)),
  f267 := Tryz.func107.trans (congrArg some (by kernel_rfl)),
  f276 := Tryz.func100.trans (congrArg some (by kernel_rfl)),
  f277 := Tryz.func132.trans (congrArg some (by kernel_rfl)),
  f314 := Tryz.func134.trans (congrArg some (by kernel_rfl)),
  t0 := Tryz.underlying0,
  a0 := Tryz.isAgg0,
  z0 := Tryz.sizeOf0,
  v0 := Tryz.zeroValue0,
  t3 := Tryz.underlying3,
  a3 := Tryz.isAgg3,
  z3 := Tryz.sizeOf3,
  v3 := Tryz.zeroValue3,
  t4 := Tryz.underlying4,
  a4 := Tryz.isAgg4,
  z4 := Tryz.sizeOf4,
  v4 := Tryz.zeroValue4,
  t5 := Tryz.underlying5,
  a5 := Tryz.isAgg5,
  z5 := Tryz.sizeOf5,
  v5 := Tryz.zeroValue5,
  t9 := Tryz.underlying9,
  a9 := Tryz.isAgg9,
  z9 := Tryz.sizeOf9,
  v9 := Tryz.zeroValue9,
  t20 := Tryz.underlying20,
  a20 := Tryz.isAgg20,
  z20 := Tryz.sizeOf20,
  v20 := Tryz.zeroValue20,
  t21 := Tryz.underlying21,
  a21 := Tryz.isAgg21,
  z21 := Tryz.sizeOf21,
  v21 := Tryz.zeroValue21,
  t37 := Tryz.underlying78,
  a37 := Tryz.isAgg78,
  z37 := Tryz.sizeOf78,
  v37 := Tryz.zeroValue78,
  t46 := Tryz.underlying136,
  a46 := Tryz.isAgg136,
  z46 := Tryz.sizeOf136,
  v46 := Tryz.zeroValue136,
  t51 := Tryz.underlying164,
  a51 := Tryz.isAgg164,
  z51 := Tryz.sizeOf164,
  v51 := Tryz.zeroValue164,
  t70 := Tryz.underlying77,
  a70 := Tryz.isAgg77,
  z70 := Tryz.sizeOf77,
  v70 := Tryz.zeroValue77,
  t72 := Tryz.underlying80,
  a72 := Tryz.isAgg80,
  z72 := Tryz.sizeOf80,
  v72 := Tryz.zeroValue80,
  t75 := Tryz.underlying62,
  a75 := Tryz.isAgg62,
  z75 := Tryz.sizeOf62,
  v75 := Tryz.zeroValue62,
  t76 := Tryz.underlying63,
  a76 := Tryz.isAgg63,
  z76 := Tryz.sizeOf63,
  v76 := Tryz.zeroValue63,
  t105 := Tryz.underlying160,
  a105 := Tryz.isAgg160,
  z105 := Tryz.sizeOf160,
  v105 := Tryz.zeroValue160,
  t119 := Tryz.underlying132,
  a119 := Tryz.isAgg132,
  z119 := Tryz.sizeOf132,
  t127 := Tryz.underlying101,
  a127 := Tryz.isAgg101,
  z127 := Tryz.sizeOf101,
  v127 := Tryz.zeroValue101,
  t138 := Tryz.underlying134,
  a138 := Tryz.isAgg134,
  z138 := Tryz.sizeOf134,
  v138 := Tryz.zeroValue134,
  t139 := Tryz.underlying135,
  a139 := Tryz.isAgg135,
  z139 := Tryz.sizeOf135,
  v139 := Tryz.zeroValue135,
  t146 := Tryz.underlying165,
  a146 := Tryz.isAgg165,
  z146 := Tryz.sizeOf165,
  v146 := Tryz.zeroValue165,
  t164 := Tryz.underlying137,
  a164 := Tryz.isAgg137,
  z164 := Tryz.sizeOf137,
  v164 := Tryz.zeroValue137,
  g1 := by kernel_rfl,
  g3 := by kernel_rfl,
  g4 := by kernel_rfl }
theorem Tryz.extra155 : Builder.Extra Tryz.prog Tryz.lays155_ren := {
  sizeBuilder := by kernel_rfl,
  liesBuilder := by kernel_rfl,
  t5 := Tryz.underlying5,
  a5 := Tryz.isAgg5,
  z5 := Tryz.sizeOf5,
  v5 := Tryz.zeroValue5,
  infoByte := by kernel_rfl,
  cellsByte := by kernel_rfl,
  sizeByte := by kernel_rfl,
  neB5 := by decide }
def Tryz.lays195_ren : Go.Shelf.Ren := ⟨fun | 195 => 90 | n => n, fun | 9 => 9 | 3 => 3 | 0 => 0 | 4 => 4 | 20 => 20 | n => n, fun | n => n⟩
theorem Tryz.lays195 : Go.Proofs.Lays.n195 Tryz.prog Tryz.lays195_ren := {
  mixed := by kernel_rfl,
  f195 := Tryz.func90.trans (congrArg some (by kernel_rfl)),
  t0 := Tryz.underlying0,
  a0 := Tryz.isAgg0,
  z0 := Tryz.sizeOf0,
  v0 := Tryz.zeroValue0,
  t3 := Tryz.underlying3,
  a3 := Tryz.isAgg3,
  z3 := Tryz.sizeOf3,
  v3 := Tryz.zeroValue3,
  t4 := Tryz.underlying4,
  a4 := Tryz.isAgg4,
  z4 := Tryz.sizeOf4,
  v4 := Tryz.zeroValue4,
  t9 := Tryz.underlying9,
  a9 := Tryz.isAgg9,
  z9 := Tryz.sizeOf9,
  v9 := Tryz.zeroValue9 }
def Tryz.lays99_ren : Go.Shelf.Ren := ⟨fun | 99 => 115 | 206 => 142 | n => n, fun | 9 => 9 | 4 => 4 | 3 => 3 | 20 => 20 | n => n, fun | n => n⟩
theorem Tryz.lays99 : Go.Proofs.Lays.n99 Tryz.prog Tryz.lays99_ren := {
  mixed := by kernel_rfl,
  f99 := Tryz.func115.trans (congrArg some (by kernel_rfl)),
  f206 := Tryz.func142.trans (congrArg some (by kernel_rfl)),
  t3 := Tryz.underlying3,
  a3 := Tryz.isAgg3,
  z3 := Tryz.sizeOf3,
  v3 := Tryz.zeroValue3,
  t4 := Tryz.underlying4,
  a4 := Tryz.isAgg4,
  z4 := Tryz.sizeOf4,
  v4 := Tryz.zeroValue4,
  t9 := Tryz.underlying9,
  a9 := Tryz.isAgg9,
  z9 := Tryz.sizeOf9,
  v9 := Tryz.zeroValue9 }
def Tryz.lays103_ren : Go.Shelf.Ren := ⟨fun | 103 => 144 | 210 => 156 | 206 => 142 | n => n, fun | 9 => 9 | 4 => 4 | 24 => 69 | 3 => 3 | 20 => 20 | n => n, fun | n => n⟩
theorem Tryz.lays103 : Go.Proofs.Lays.n103 Tryz.prog Tryz.lays103_ren := {
  mixed := by kernel_rfl,
  f103 := Tryz.func144.trans (congrArg some (by kernel_rfl)),
  f206 := Tryz.func142.trans (congrArg some (by kernel_rfl)),
  f210 := Tryz.func156.trans (congrArg some (by kernel_rfl)),
  t3 := Tryz.underlying3,
  a3 := Tryz.isAgg3,
  z3 := Tryz.sizeOf3,
  v3 := Tryz.zeroValue3,
  t4 := Tryz.underlying4,
  a4 := Tryz.isAgg4,
  z4 := Tryz.sizeOf4,
  v4 := Tryz.zeroValue4,
  t9 := Tryz.underlying9,
  a9 := Tryz.isAgg9,
  z9 := Tryz.sizeOf9,
  v9 := Tryz.zeroValue9,
  t24 := Tryz.underlying69,
  a24 := Tryz.isAgg69,
  z24 := Tryz.sizeOf69,
  v24 := Tryz.zeroValue69 }
end Go.Proofs
end
/- The library's functions that the wire seat calls, by the shelf's contracts. -/
section
set_option linter.unusedVariables false
namespace Go.Dip
open Go.Proofs Go.RowKit
structure WOk (W0 : World) : Prop where
  len : ∃ m, W0.cell? ⟨2, 0, none⟩ = some (.int .i64 m)
  pow : Lib.TabIs Tryz.prog W0 "internal/strconv.uint64pow10" .u64 Lib.pow10Tab
  syn : ∃ te pe, W0.cell? ⟨3, 0, none⟩ = some (.iface te pe)
  rng : ∃ te pe, W0.cell? ⟨4, 0, none⟩ = some (.iface te pe)
  utf : Lib.Utf8Tabs 0 1 W0
theorem utf_below {w w' : World} (hb : Below w.heap.size w w') (h : Lib.Utf8Tabs 0 1 w) : Lib.Utf8Tabs 0 1 w' :=
  ⟨fun c hc => cell_below hb (h.1 c hc), fun i hi => ⟨cell_below hb (h.2 i hi).1, cell_below hb (h.2 i hi).2⟩⟩
variable {W0 : World}
theorem G24.ok (hW : WOk W0) : PureOk Tryz.prog tyE W0 24 G24.G := by
  obtain ⟨m, hm⟩ := hW.len
  exact lib_cut (enters_of Tryz.func24 (by kernel_rfl) (by kernel_rfl)) hm fun s sep m w h1 h2 => Any.strings_Cut Tryz.lays145 s sep m w h1 h2
theorem G26.ok (hW : WOk W0) : PureOk Tryz.prog tyE W0 26 G26.G := by
  obtain ⟨t1, p1, h1⟩ := hW.syn
  obtain ⟨t2, p2, h2⟩ := hW.rng
  refine lib_atoi (enters_of Tryz.func26 (by kernel_rfl) (by kernel_rfl)) (fun s v w hs h => ?_) (fun s w hb hs h => ?_) (fun s w hb hs h => ?_)
  · refine (Any.strconv_Atoi_ok Tryz.laysc172 s hs v h w).mono ?_
    rintro e w' ⟨rfl, rfl | ⟨t, rfl⟩⟩
    · exact ⟨rfl, Below.refl _ _⟩
    · exact ⟨rfl, Lib.bytesWorld_below w 5 t⟩
  · refine (Any.strconv_Atoi_syntax Tryz.laysc172 s hs (by cases e : Lib.atoiAll s.data.toList with
      | ok v => exact absurd e (h.2 v)
      | range => exact absurd e h.1
      | _ => rfl) _ w (cell_below hb h1) (.inr ⟨_, _, rfl⟩)).mono ?_
    rintro e w' ⟨N, rfl, _, _, hb'⟩
    exact ⟨⟨_, _, rfl⟩, hb'⟩
  · refine (Any.strconv_Atoi_range Tryz.laysc172 s hs h _ w (cell_below hb h2) (.inr ⟨_, _, rfl⟩)).mono ?_
    rintro e w' ⟨N, rfl, _, _, hb'⟩
    exact ⟨⟨_, _, rfl⟩, hb'⟩
theorem G27.ok (hW : WOk W0) : PureOk Tryz.prog tyE W0 27 G27.G := by
  refine lib_itoa (enters_of Tryz.func27 (by kernel_rfl) (by kernel_rfl)) (T := fun w => Lib.TabIs Tryz.prog w "internal/strconv.uint64pow10" .u64 Lib.pow10Tab) (fun w hb => tab_below hb hW.pow) fun n w h1 h2 hT => ?_
  refine (Any.strconv_Itoa Tryz.laysm171 n h1 h2 w hT).mono ?_
  rintro e w' ⟨rfl, k, os, rfl⟩
  exact ⟨rfl, below_append w _ rfl rfl rfl os rfl⟩
theorem G39.ok (hW : WOk W0) : HeapGOk Tryz.prog tyE tyB W0 39 G39.G :=
  lib_writeString (enters_of Tryz.func39 (by kernel_rfl) (by kernel_rfl)) fun B b bs s w h1 h2 h3 => Any.Builder_WriteString_k Tryz.lays166 Tryz.extra166 B b bs s w h1 h2 h3
theorem G40.ok (hW : WOk W0) : HeapGOk Tryz.prog tyE tyB W0 40 G40.G :=
  lib_string (enters_of Tryz.func40 (by kernel_rfl) (by kernel_rfl)) fun B b l w h1 h2 => Any.Builder_String_any_k Tryz.lays169 Tryz.extra169 B b l w h1 h2
theorem G43.ok (hW : WOk W0) : PureOk Tryz.prog tyE W0 43 G43.G :=
  lib_join (enters_of Tryz.func43 (by kernel_rfl) (by kernel_rfl)) (fun a c sep w => Any.strings_Join_none Tryz.lays156 Tryz.extra156 a c sep w) fun bk o c xs sep w h1 h2 h3 h4 h5 => Any.strings_Join Tryz.lays156 Tryz.extra156 bk o c xs sep w h1 h2 h3 h4 h5
theorem G49.ok (hW : WOk W0) : HeapGOk Tryz.prog tyE tyB W0 49 G49.G :=
  lib_writeByte (enters_of Tryz.func49 (by kernel_rfl) (by kernel_rfl)) fun B b bs c w h1 h2 h3 => Any.Builder_WriteByte_k Tryz.lays167 Tryz.extra167 B b bs c w h1 h2 h3
theorem G66.ok (hW : WOk W0) : PureOk Tryz.prog tyE W0 66 G66.G :=
  lib_trim (enters_of Tryz.func66 (by kernel_rfl) (by kernel_rfl)) fun s cs w h1 h2 h3 => Any.strings_Trim_laid Tryz.lays160 (by kernel_rfl) s cs w h1 h2 h3
theorem G67.ok (hW : WOk W0) : PureOk Tryz.prog tyE W0 67 G67.G :=
  lib_valid (enters_of Tryz.func67 (by kernel_rfl) (by kernel_rfl)) (T := Lib.Utf8Tabs 0 1) (fun w hb => utf_below hb hW.utf) fun s w h1 h2 => Any.utf8_ValidString Tryz.lays196 s w h1 h2
theorem G70.ok (hW : WOk W0) : PureOk Tryz.prog tyE W0 70 G70.G := by
  obtain ⟨m, hm⟩ := hW.len
  exact lib_replaceAll (enters_of Tryz.func70 (by kernel_rfl) (by kernel_rfl)) hm fun s old new m w h1 h2 h3 h4 => Any.strings_ReplaceAll Tryz.lays155 Tryz.extra155 s old new m w h1 h2 h3 h4
theorem G90.ok (hW : WOk W0) : PureOk Tryz.prog tyE W0 90 G90.G :=
  lib_runeCount (enters_of Tryz.func90 (by kernel_rfl) (by kernel_rfl)) fun s w h => Any.utf8_RuneCountInString Tryz.lays195 s w h
theorem G115.ok (hW : WOk W0) : PureOk Tryz.prog tyE W0 115 G115.G :=
  lib_prefix (enters_of Tryz.func115 (by kernel_rfl) (by kernel_rfl)) fun s p w => Any.strings_HasPrefix Tryz.lays99 s p w
theorem G143.ok (hW : WOk W0) : PureOk Tryz.prog tyE W0 143 G143.G :=
  lib_trimLeft (enters_of Tryz.func143 (by kernel_rfl) (by kernel_rfl)) fun s cs w h1 h2 => Any.strings_TrimLeft_laid Tryz.lays161 (by kernel_rfl) s cs w h1 h2
theorem G144.ok (hW : WOk W0) : PureOk Tryz.prog tyE W0 144 G144.G :=
  lib_cutPrefix (enters_of Tryz.func144 (by kernel_rfl) (by kernel_rfl)) fun s p w => Any.strings_CutPrefix Tryz.lays103 s p w
end Go.Dip
end
