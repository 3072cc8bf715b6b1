/- Joined by program out of: Core29, Core30, CoreOwn, Core31, Core32, Core33, Core34, CoreRun, LibPlain, CoreLib, CoreRow. -/
import Derived.Test.YtigkblelhghjjaaGreatDoorDipC
import Derived.Lib.IndexMore
import Derived.Lib.ItoaNum
import Derived.Lib.AtoiAll
import Derived.Lib.Join
import Derived.Lib.Replace
import Derived.Lib.RuneCount
import Derived.Lib.SlTrimSet
import Derived.Lib.Strings
import Derived.Lib.ValidU
import Derived.Lib.LaidTab
import Derived.Sort.Grow
import Derived.Lib.ConvBytes
import Derived.Laws.RangeString
import Derived.Deep.Draws
import Derived.OpenShut
import Derived.ChangeSlices
set_option linter.all false
/- An ideal semantics of the model's code, part 29: what follows is told once: each evaluation is its own value, and what follows. -/
section
set_option linter.unusedVariables false
set_option linter.unusedSimpArgs false
namespace Go.Dip

/-- What goes on by a continuation, at whatever type it ends. -/
abbrev Cps (α : Type) := (R : Type) → (α → Option R) → Option R
def IsNat {α : Type} (g : Cps α) : Prop := ∀ R K, g R K = (g α some).bind K
def IsNat2 {α β : Type} (g : (R : Type) → (α → β → Option R) → Option R) : Prop := ∀ R K, g R K = (g (α × β) fun x y => some (x, y)).bind fun p => K p.1 p.2
section
variable {α β γ δ : Type}
theorem IsNat.ret (v : α) : IsNat (fun R K => K v) := fun R K => rfl
theorem IsNat2.ret (v : α) (u : β) : IsNat2 (fun R K => K v u) := fun R K => rfl
theorem IsNat.none : IsNat (α := α) (fun R K => Option.none) := fun R K => rfl
theorem IsNat2.none : IsNat2 (α := α) (β := β) (fun R K => Option.none) := fun R K => rfl
theorem IsNat.bif {g h : Cps α} (b : Bool) (hg : IsNat g) (hh : IsNat h) : IsNat (fun R K => bif b then g R K else h R K) := by cases b; exact hh; exact hg
theorem IsNat2.bif {g h : (R : Type) → (α → β → Option R) → Option R} (b : Bool) (hg : IsNat2 g) (hh : IsNat2 h) : IsNat2 (fun R K => bif b then g R K else h R K) := by cases b; exact hh; exact hg
theorem IsNat.comp {g : Cps α} {h : α → Cps β} (hg : IsNat g) (hh : ∀ x, IsNat (h x)) : IsNat (fun R K => g R fun x => h x R K) := by
  intro R K
  show g R (fun x => h x R K) = (g β fun x => h x β some).bind K
  rw [hg R, hg β, Option.bind_assoc]
  congr 1
  funext x
  exact hh x R K
theorem IsNat.comp2 {g : Cps α} {h : α → (R : Type) → (β → γ → Option R) → Option R} (hg : IsNat g) (hh : ∀ x, IsNat2 (h x)) : IsNat2 (fun R K => g R fun x => h x R K) := by
  intro R K
  show g R (fun x => h x R K) = (g (β × γ) fun x => h x (β × γ) fun x y => some (x, y)).bind fun p => K p.1 p.2
  rw [hg R, hg (β × γ), Option.bind_assoc]
  congr 1
  funext x
  exact hh x R K
theorem IsNat2.comp {g : (R : Type) → (α → β → Option R) → Option R} {h : α → β → Cps γ} (hg : IsNat2 g) (hh : ∀ x y, IsNat (h x y)) : IsNat (fun R K => g R fun x y => h x y R K) := by
  intro R K
  show g R (fun x y => h x y R K) = (g γ fun x y => h x y γ some).bind K
  rw [hg R, hg γ, Option.bind_assoc]
  congr 1
  funext x
  exact hh x.1 x.2 R K
theorem IsNat2.comp2 {g : (R : Type) → (α → β → Option R) → Option R} {h : α → β → (R : Type) → (γ → δ → Option R) → Option R} (hg : IsNat2 g) (hh : ∀ x y, IsNat2 (h x y)) : IsNat2 (fun R K => g R fun x y => h x y R K) := by
  intro R K
  show g R (fun x y => h x y R K) = (g (γ × δ) fun x y => h x y (γ × δ) fun x y => some (x, y)).bind fun p => K p.1 p.2
  rw [hg R, hg (γ × δ), Option.bind_assoc]
  congr 1
  funext x
  exact hh x.1 x.2 R K
end

theorem wP_nat (v : GV) : IsNat (fun R K => wP (R := R) v K) := by intro R K; unfold wP; split <;> rfl
theorem wInt_nat (k : IntKind) (v : GV) : IsNat (fun R K => wInt (R := R) k v K) := (wP_nat v).comp fun x => IsNat.bif _ (.ret _) .none
theorem wStr_nat (v : GV) : IsNat (fun R K => wStr (R := R) v K) := (wP_nat v).comp fun x => IsNat.bif _ (.ret _) .none
theorem wBool_nat (v : GV) : IsNat (fun R K => wBool (R := R) v K) := (wP_nat v).comp fun x => IsNat.bif _ (.ret _) .none
theorem wPure_nat (E : Env) (st : St) (t : TypeId) (x : Operand) : IsNat2 (fun R K => wPure (R := R) E st t x K) := by intro R K; unfold wPure; simp only; split <;> rfl
theorem wPures_nat (E : Env) : ∀ (l : List (TypeId × Operand)) (st : St) (acc : List PV), IsNat2 (fun R K => wPures (R := R) E st l acc K)
  | [], st, acc => .ret _ _
  | x :: l, st, acc => (wPure_nat E st x.1 x.2).comp2 fun v st => wPures_nat E l st (v :: acc)
theorem wCells_nat (E : Env) (t : TypeId) (v : GV) : IsNat (fun R K => wCells (R := R) E t v K) := by
  intro R K
  unfold wCells
  cases isStruct (E.ty t)
  · cases isScalar (E.ty t)
    · rfl
    · simp only [cond_false, cond_true]
      split
      · rename_i x; cases x.isOne <;> rfl
      · rfl
      · rfl
  · simp only [cond_true]
    split
    · rename_i x; cases x.isAgg (E.sz t) <;> rfl
    · rename_i cs; cases Nat.beq cs.length (E.sz t) <;> rfl
    · rfl
theorem wPCells_nat (E : Env) (t : TypeId) (v : PV) : IsNat (fun R K => wPCells (R := R) E t v K) := IsNat.bif _ (IsNat.bif _ (.ret _) .none) (IsNat.bif _ (.ret _) .none)
theorem wElem_nat (E : Env) (t : TypeId) (v : PV) : IsNat (fun R K => wElem (R := R) E t v K) := IsNat.bif _ (IsNat.bif _ (.ret _) .none) (IsNat.bif _ (.ret _) .none)
theorem readP_nat (E : Env) (t : TypeId) (c : Nat) (e : PV) (off : Nat) : IsNat (fun R K => readP (R := R) E t c e off K) := IsNat.bif _ (IsNat.bif _ (.ret _) .none) (IsNat.bif _ (.ret _) .none)
theorem fieldOff_nat (E : Env) (s : TypeId) (f : Nat) : IsNat2 (fun R K => fieldOff (R := R) E s f K) := by
  intro R K
  unfold fieldOff
  split
  · split
    · exact (IsNat2.bif _ .none (.ret _ _)) R K
    · rfl
  · rfl
theorem wBool?_nat (b : Option Bool) : IsNat (fun R K => wBool? (R := R) b K) := by intro R K; cases b <;> rfl
theorem wEq_nat (E : Env) : ∀ (fs : List (Nat × TypeId)) (x y : PV), IsNat (fun R K => wEq (R := R) E fs x y K)
  | [], x, y => .ret _
  | f :: fs, x, y => by
    intro R K
    simp only [wEq]
    split
    · exact ((wStr_nat _).comp fun a => (wStr_nat _).comp fun b => (wEq_nat E fs x y).comp fun z => .ret _) R K
    · exact ((wInt_nat _ _).comp fun a => (wInt_nat _ _).comp fun b => (wEq_nat E fs x y).comp fun z => .ret _) R K
    · exact ((wBool_nat _).comp fun a => (wBool_nat _).comp fun b => (wEq_nat E fs x y).comp fun z => .ret _) R K
    · rfl
theorem wNil_nat (op : BinOp) (x y : Option Bool) : IsNat (fun R K => wNil (R := R) op x y K) := by
  intro R K
  unfold wNil
  split
  · rename_i a b
    cases a || b
    · rfl
    · simp only [cond_true]
      split <;> rfl
  · rfl
theorem evBin_nat (E : Env) (st : St) (op : BinOp) (t : TypeId) (x y : Operand) : IsNat (fun R K => evBin (R := R) E st op t x y K) := by
  intro R K
  unfold evBin
  split
  · rename_i k _
    revert R K
    refine (wInt_nat _ _).comp fun a => (wInt_nat _ _).comp fun b => ?_
    intro R K
    split <;> first
      | exact (IsNat.bif _ .none (.ret _)) R K
      | (split <;> rfl)
      | exact wBool?_nat _ R K
  · revert R K
    refine (wStr_nat _).comp fun a => (wStr_nat _).comp fun b => ?_
    intro R K
    split <;> first
      | exact (IsNat.bif _ (.ret _) .none) R K
      | exact wBool?_nat _ R K
  · revert R K
    refine (wBool_nat _).comp fun a => (wBool_nat _).comp fun b => ?_
    intro R K
    split <;> rfl
  · rename_i fs _
    revert R K
    refine (wP_nat _).comp fun a => (wP_nat _).comp fun b => ?_
    refine IsNat.bif _ ?_ .none
    intro R K
    split
    · exact ((wEq_nat E fs a b).comp fun z => .ret _) R K
    · exact ((wEq_nat E fs a b).comp fun z => .ret _) R K
    · rfl
  · exact wNil_nat _ _ _ R K
  · revert R K
    refine IsNat.bif _ ?_ .none
    refine (wP_nat _).comp fun a => (wP_nat _).comp fun b => ?_
    refine IsNat.bif _ ?_ .none
    intro R K
    split <;> rfl
  · rfl
theorem wNew_nat (E : Env) (d : Nat) (o : Ob) (st : St) : IsNat (fun R K => wNew (R := R) E d o st K) := IsNat.bif _ (.ret _) .none
theorem loadC_nat (E : Env) (t : TypeId) (cs : List CV) (off : Nat) : IsNat (fun R K => loadC (R := R) E t cs off K) := by
  refine IsNat.bif _ (IsNat.bif _ (.ret _) .none) (IsNat.bif _ ?_ .none)
  intro R K
  split
  · exact (IsNat.bif _ .none (.ret _)) R K
  · rfl
  · rfl
theorem evLoad_nat (E : Env) (st : St) (t : TypeId) (a : GV) : IsNat (fun R K => evLoad (R := R) E st t a K) := by
  intro R K
  unfold evLoad
  split
  · split
    · exact loadC_nat _ _ _ _ R K
    · rfl
  · split
    · exact readP_nat _ _ _ _ _ R K
    · exact loadC_nat _ _ _ _ R K
    · rfl
  · exact readP_nat _ _ _ _ _ R K
  · rfl
theorem evStore_nat (E : Env) (st : St) (t : TypeId) (a : GV) (x : Operand) : IsNat (fun R K => evStore (R := R) E st t a x K) := by
  intro R K
  unfold evStore
  split
  · split
    · exact ((wCells_nat _ _ _).comp fun xs => IsNat.bif _ (.ret _) .none) R K
    · rfl
  · revert R K
    refine (wPure_nat E st t x).comp fun v st => ?_
    intro R K
    split
    · exact (IsNat.bif _ ((wElem_nat _ _ _).comp fun v => .ret _) (IsNat.bif _ ((wPCells_nat _ _ _).comp fun xs => IsNat.bif _ (.ret _) .none) (IsNat.bif _ (.ret _) .none))) R K
    · rfl
  · rfl
theorem wBuild_nat (E : Env) (st : St) (fs : List (Nat × TypeId)) : ∀ (l : List (Nat × Operand)) (cs : List CV), IsNat (fun R K => wBuild (R := R) E st fs l cs K)
  | [], cs => .ret _
  | x :: l, cs => by
    intro R K
    simp only [wBuild]
    split
    · exact ((wCells_nat _ _ _).comp fun xs => wBuild_nat E st fs l _) R K
    · rfl
theorem wParts_nat (E : Env) (e : TypeId) : ∀ (l : List (Nat × Operand)) (st : St) (n : Nat) (acc : List PV), IsNat2 (fun R K => wParts (R := R) E e st l n acc K)
  | [], st, n, acc => IsNat2.bif _ (.ret _ _) .none
  | x :: l, st, n, acc => by
    refine IsNat2.bif _ ?_ .none
    intro R K
    split
    · rfl
    · exact ((wPure_nat E st e x.2).comp2 fun v st => (wElem_nat E e v).comp2 fun v => wParts_nat E e l st _ _) R K
theorem wParts0_nat (E : Env) (e : TypeId) (s : St) : ∀ (l : List (Nat × Operand)) (n : Nat) (acc : List PV), IsNat (fun R K => wParts0 (R := R) E e s l n acc K)
  | [], n, acc => IsNat.bif _ (.ret _) .none
  | x :: l, n, acc => by
    refine IsNat.bif _ ?_ .none
    intro R K
    split
    · rfl
    · split
      · exact ((wElem_nat E e _).comp fun v => wParts0_nat E e s l _ _) R K
      · rfl
theorem wSl_nat (E : Env) (c : Nat) (st : St) (v : GV) : IsNat (fun R K => wSl (R := R) E c st v K) := by
  intro R K
  unfold wSl
  split
  · exact (IsNat.bif _ (.ret _) .none) R K
  · rfl
  · split
    · exact (IsNat.bif _ (.ret _) .none) R K
    · rfl
  · split
    · exact (IsNat.bif _ (.ret _) .none) R K
    · rfl
  · rfl
theorem evConv_nat (E : Env) (d : Nat) (st : St) (s t : TypeId) (x : Operand) : IsNat2 (fun R K => evConv (R := R) E d st s t x K) := by
  intro R K
  unfold evConv
  split
  · exact ((wInt_nat _ _).comp2 fun a => .ret _ _) R K
  · exact ((wStr_nat _).comp2 fun a => .ret _ _) R K
  · exact ((wInt_nat _ _).comp2 fun a => .ret _ _) R K
  · split
    · exact ((wStr_nat _).comp2 fun a => IsNat2.bif _ ((wNew_nat _ _ _ _).comp2 fun st => .ret _ _) .none) R K
    · rfl
  · split
    · exact ((wSl_nat _ _ _ _).comp2 fun a => IsNat2.bif _ (.ret _ _) .none) R K
    · exact ((wSl_nat _ _ _ _).comp2 fun a => IsNat2.bif _ (.ret _ _) .none) R K
    · rfl
  · rfl
theorem wOptInt_nat (st : St) (x : Option Operand) (z : Int) : IsNat (fun R K => wOptInt (R := R) st x z K) := by
  cases x with
  | none => exact .ret _
  | some x => exact wInt_nat _ _
theorem evSlice_nat (E : Env) (st : St) (t : TypeId) (x : Operand) (lo hi : Option Operand) : IsNat (fun R K => evSlice (R := R) E st t x lo hi K) := by
  intro R K
  unfold evSlice
  split
  · exact ((wStr_nat _).comp fun s => (wOptInt_nat _ _ _).comp fun l => (wOptInt_nat _ _ _).comp fun h => IsNat.bif _ (.ret _) .none) R K
  · split
    · exact (IsNat.bif _ ((wOptInt_nat _ _ _).comp fun l => (wOptInt_nat _ _ _).comp fun h => IsNat.bif _ (.ret _) .none) .none) R K
    · split
      · exact (IsNat.bif _ ((wOptInt_nat _ _ _).comp fun l => (wOptInt_nat _ _ _).comp fun h => IsNat.bif _ (.ret _) .none) .none) R K
      · rfl
    · rfl
  · rfl
theorem evAddr_nat (E : Env) (st : St) (s : TypeId) (f : Nat) (v : GV) : IsNat (fun R K => evAddr (R := R) E st s f v K) := by
  refine (fieldOff_nat E s f).comp fun fo ft => ?_
  intro R K
  split
  · split <;> rfl
  · rfl
  · rfl
  · rfl
theorem evField_nat (E : Env) (s : TypeId) (f : Nat) (v : GV) : IsNat (fun R K => evField (R := R) E s f v K) := by
  refine (fieldOff_nat E s f).comp fun fo ft => ?_
  intro R K
  split
  · exact (IsNat.bif _ (IsNat.bif _ (.ret _) (IsNat.bif _ (.ret _) .none)) .none) R K
  · rename_i cs
    revert R K
    refine IsNat.bif _ (IsNat.bif _ (.ret _) .none) ?_
    refine IsNat.bif _ ?_ .none
    intro R K
    split <;> rfl
  · rfl
theorem evIndexAddr_nat (E : Env) (st : St) (t : TypeId) (x i : Operand) : IsNat (fun R K => evIndexAddr (R := R) E st t x i K) := by
  intro R K
  unfold evIndexAddr
  split
  · revert R K
    refine (wInt_nat _ _).comp fun i => ?_
    intro R K
    split
    · exact (IsNat.bif _ (.ret _) .none) R K
    · split
      · exact (IsNat.bif _ (.ret _) .none) R K
      · rfl
    · split
      · exact (IsNat.bif _ (.ret _) .none) R K
      · rfl
    · rfl
  · rfl
theorem evIndex_nat (E : Env) (st : St) (t : TypeId) (x i : Operand) : IsNat (fun R K => evIndex (R := R) E st t x i K) := by
  intro R K
  unfold evIndex
  split
  · exact ((wStr_nat _).comp fun s => (wInt_nat _ _).comp fun i => IsNat.bif _ (.ret _) .none) R K
  · rfl
theorem evLen_nat (E : Env) (st : St) (t : TypeId) (x : Operand) : IsNat (fun R K => evLen (R := R) E st t x K) := by
  intro R K
  unfold evLen
  split
  · exact ((wStr_nat _).comp fun s => .ret _) R K
  · split
    · rfl
    · split <;> rfl
    · exact ((wSl_nat _ _ _ _).comp fun s => .ret _) R K
  · split
    · split <;> rfl
    · exact (IsNat.bif _ (.ret _) .none) R K
    · rfl
  · rfl
theorem evAppend_nat (E : Env) (d : Nat) (st : St) (t : TypeId) (s x : Operand) (xt : TypeId) : IsNat2 (fun R K => evAppend (R := R) E d st t s x xt K) := by
  intro R K
  unfold evAppend
  split
  · revert R K
    refine (wSl_nat _ _ _ _).comp2 fun xs => ?_
    intro R K
    split
    · split
      · exact (IsNat2.bif _ (.ret _ _) .none) R K
      · rfl
    · exact (IsNat2.bif _ ((wNew_nat _ _ _ _).comp2 fun st => .ret _ _) .none) R K
    · rfl
  · rfl
theorem evMinMax_nat (st : St) (mx : Bool) (t : TK) (xs : List Operand) : IsNat (fun R K => evMinMax (R := R) st mx t xs K) := by
  intro R K
  unfold evMinMax
  split
  · exact ((wInt_nat _ _).comp fun a => (wInt_nat _ _).comp fun b => .ret _) R K
  · exact ((wInt_nat _ _).comp fun a => (wInt_nat _ _).comp fun b => (wInt_nat _ _).comp fun c => .ret _) R K
  · rfl
theorem splitB_nat (st : St) (x : Operand) : IsNat2 (fun R K => splitB (R := R) st x K) := by
  refine (wBool_nat _).comp2 fun b => ?_
  intro R K
  split
  · exact (IsNat2.bif _ (.ret _ _) (.ret _ _)) R K
  · exact (IsNat2.bif _ (.ret _ _) (.ret _ _)) R K

/-! Callees and loops. -/
abbrev RhoF := (R : Type) → FuncId → Option (Callee R)
abbrev LamF := (R : Type) → Nat → Option (Wrap R)
def RhoNat (ρ : RhoF) : Prop := ∀ g, (∀ R, ρ R g = none) ∨ (∃ F : List PV → Cps GV, (∀ R, ρ R g = some (.pure fun vs => F vs R)) ∧ ∀ vs, IsNat (F vs)) ∨
  ∃ F : List GV → List (Nat × Ob) → (R : Type) → (GV → List (Nat × Ob) → Option R) → Option R, (∀ R, ρ R g = some (.heap fun a H => F a H R)) ∧ ∀ a H, IsNat2 (F a H)
def KeyNat (Λ : LamF) (i : Nat) : Prop := (∀ R, Λ R i = none) ∨ ∃ L : (R : Type) → Wrap R, (∀ R, Λ R i = some (L R)) ∧ ∀ st, IsNat2 (fun R K => L R st K)
/-- What the loops and the second parts of a code come to. -/
def LamNat (Λ : LamF) (c : Code) : Prop := (∀ c', c' ∈ loops c → KeyNat Λ (2 * fr c')) ∧ ∀ b, b ∈ seconds c → KeyNat Λ (2 * fr b + 1)

theorem evCalm_nat (E : Env) {ρ : RhoF} (hρ : RhoNat ρ) (o : Oper) (st : St) : IsNat (fun R K => evCalm E (ρ R) o st K) := by
  intro R K
  unfold evCalm
  split
  · rfl
  · split <;> rfl
  · exact ((wBool_nat _).comp fun z => IsNat.bif _ (.ret _) (.ret _)) R K
  · split
    · exact ((wBuild_nat _ _ _ _ _).comp fun cs => .ret _) R K
    · rfl
  · exact evLoad_nat _ _ _ _ R K
  · split <;> rfl
  · exact evBin_nat _ _ _ _ _ _ R K
  · split
    · exact ((wBool_nat _).comp fun z => .ret _) R K
    · exact ((wInt_nat _ _).comp fun z => .ret _) R K
    · rfl
  · split
    · rfl
    · exact ((evConv_nat _ _ _ _ _ _).comp fun v _ => .ret v) R K
  · revert R K
    refine IsNat.bif _ .none (IsNat.bif _ ?_ (IsNat.bif _ ?_ .none))
    · intro R K
      split <;> rfl
    · intro R K
      split <;> rfl
  · exact evSlice_nat _ _ _ _ _ _ R K
  · exact evAddr_nat _ _ _ _ _ R K
  · exact evField_nat _ _ _ _ R K
  · exact evIndexAddr_nat _ _ _ _ _ R K
  · exact evIndex_nat _ _ _ _ _ R K
  · split
    · split <;> rfl
    · rfl
  · exact (IsNat.bif _ (evLen_nat _ _ _ _) .none) R K
  · exact evMinMax_nat _ _ _ _ R K
  · exact evMinMax_nat _ _ _ _ R K
  · split
    · rename_i g _
      revert R K
      refine IsNat.bif _ .none ?_
      intro R K
      try dsimp only
      rcases hρ g with h | ⟨F, h1, h2⟩ | ⟨F, h1, h2⟩
      · rw [h R, h GV]; rfl
      · rw [h1 R, h1 GV]
        revert R K
        refine IsNat.bif _ ?_ .none
        intro R K
        split
        · exact h2 _ R K
        · rfl
      · rw [h1 R, h1 GV]; rfl
    · rfl
  · rfl

theorem callHeap_nat (E : Env) (d : Nat) (st : St) (args : List GV) {F : List GV → List (Nat × Ob) → (R : Type) → (GV → List (Nat × Ob) → Option R) → Option R} (hF : ∀ a H, IsNat2 (F a H)) : IsNat2 (fun R K => callHeap (R := R) E d st args (fun a H => F a H R) K) := by
  refine IsNat2.bif _ ?_ .none
  refine (hF _ _).comp2 fun v H => ?_
  exact IsNat2.bif _ (IsNat2.bif _ (.ret _ _) .none) .none
theorem outRec_nat (E : Env) (ex : Bool) (d : Nat) (s : St) (ks : List Nat) (v : GV) (H : List (Nat × Ob)) : IsNat2 (fun R K => outRec (R := R) E ex d s ks v H K) := IsNat2.bif _ (IsNat2.bif _ (.ret _ _) .none) .none
theorem callRec_nat (E : Env) (ex : Bool) (d : Nat) (st : St) (args : List GV) {F : List GV → List (Nat × Ob) → (R : Type) → (GV → List (Nat × Ob) → Option R) → Option R} (hF : ∀ a H, IsNat2 (F a H)) : IsNat2 (fun R K => callRec (R := R) E ex d st args (fun a H => F a H R) K) := by
  refine IsNat2.bif _ ?_ .none
  exact (hF _ _).comp2 fun v H => outRec_nat E ex d st _ v H
theorem calm2 (E : Env) {ρ : RhoF} (hρ : RhoNat ρ) {β : Type} (o : Oper) (st : St) (b : β) : IsNat2 (fun R K => evCalm E (ρ R) o st fun v => K v b) := (evCalm_nat E hρ o st).comp2 fun v => .ret v b
theorem deepStore_nat (E : Env) (st : St) (r : Nat) (i : Int) (off : Nat) (t : TypeId) (x : Operand) : IsNat (fun R K => deepStore (R := R) E st r i off t x K) := by
  intro R K
  unfold deepStore
  split
  · split
    · exact (IsNat.bif _ (.ret _) .none) R K
    · rfl
  · rfl
theorem evStore2_nat (E : Env) (st : St) (t : TypeId) (a : GV) (x : Operand) : IsNat (fun R K => evStore2 (R := R) E st t a x K) := by
  intro R K
  unfold evStore2
  split
  · revert R K
    refine IsNat.bif _ (deepStore_nat _ _ _ _ _ _ _) ?_
    intro R K
    split
    · exact (IsNat.bif _ (deepStore_nat _ _ _ _ _ _ _) (evStore_nat _ _ _ _ _)) R K
    · exact evStore_nat _ _ _ _ _ R K
  · exact evStore_nat _ _ _ _ _ R K
theorem wOk_nat (ok : Bool) (v : CV) (f : Bool) : IsNat (fun R K => wOk (R := R) ok v f K) := IsNat.bif _ (.ret _) (.ret _)
theorem wOk_nat2 {β : Type} (ok : Bool) (v : CV) (f : Bool) (b : GV → β) : IsNat2 (fun R K => wOk (R := R) ok v f fun v => K v (b v)) := IsNat2.bif _ (.ret _ _) (.ret _ _)
theorem evLookup_nat (E : Env) (d : Nat) (st : St) (t : TypeId) (m k : Operand) (ok : Bool) : IsNat2 (fun R K => evLookup (R := R) E d st t m k ok K) := by
  refine IsNat2.bif _ ?_ .none
  refine (wP_nat _).comp2 fun key => ?_
  refine IsNat2.bif _ ?_ .none
  intro R K
  split
  · revert R K
    refine IsNat2.bif _ ?_ .none
    intro R K
    split
    · exact wOk_nat2 _ _ _ (fun _ => st) R K
    · exact (IsNat2.bif _ (wOk_nat2 _ _ _ fun _ => st) .none) R K
    · rfl
  · split
    · revert R K
      refine IsNat2.bif _ ?_ .none
      intro R K
      split
      · exact wOk_nat2 _ _ _ (fun _ => st) R K
      · split
        · revert R K
          refine IsNat2.bif _ ?_ ?_
          · intro R K
            split
            · split
              · exact (IsNat2.bif _ (wOk_nat2 _ _ _ fun _ => _) .none) R K
              · rfl
            · rfl
          · exact IsNat2.bif _ (wOk_nat2 _ _ _ fun _ => st) .none
        · exact wOk_nat2 _ _ _ (fun _ => st) R K
    · rfl
theorem evMapSet_nat (E : Env) (st : St) (t : TypeId) (m k x : Operand) : IsNat (fun R K => evMapSet (R := R) E st t m k x K) := by
  refine IsNat.bif _ ?_ .none
  refine (wP_nat _).comp fun key => ?_
  refine IsNat.bif _ ?_ .none
  intro R K
  split
  · split
    · split
      · exact (IsNat.bif _ (.ret _) .none) R K
      · rfl
    · revert R K
      refine (wPure_nat _ _ _ _).comp fun v st => ?_
      refine IsNat.bif _ ?_ .none
      intro R K
      split
      · exact (IsNat.bif _ (.ret _) .none) R K
      · rfl
  · rfl
theorem evMapEntry_nat (E : Env) (st : St) (t : TypeId) (m k : Operand) : IsNat2 (fun R K => evMapEntry (R := R) E st t m k K) := by
  refine IsNat2.bif _ ?_ .none
  refine (wP_nat _).comp2 fun key => ?_
  refine IsNat2.bif _ ?_ .none
  intro R K
  split
  · split
    · revert R K
      refine IsNat2.bif _ ?_ .none
      intro R K
      split
      · exact (IsNat2.bif _ .none (.ret _ _)) R K
      · rfl
    · rfl
  · rfl
theorem evEntryStore_nat (E : Env) (st : St) (t : TypeId) (m s x : Operand) : IsNat (fun R K => evEntryStore (R := R) E st t m s x K) := by
  refine IsNat.bif _ ?_ .none
  refine (wInt_nat _ _).comp fun n => ?_
  intro R K
  split
  · split
    · rfl
    · revert R K
      refine (wPure_nat _ _ _ _).comp fun v st => ?_
      refine IsNat.bif _ ?_ .none
      intro R K
      split
      · exact (IsNat.bif _ (.ret _) .none) R K
      · rfl
  · rfl
theorem evRange_nat (d : Nat) (st : St) (m : Operand) : IsNat2 (fun R K => evRange (R := R) d st m K) := (wP_nat _).comp2 fun v => IsNat2.bif _ (.ret _ _) .none
theorem evNext_nat (st : St) (x : Operand) : IsNat2 (fun R K => evNext (R := R) st x K) := by
  intro R K
  unfold evNext
  split
  · split <;> rfl
  · rfl
theorem evEntry_nat (st : St) (x : Operand) : IsNat (fun R K => evEntry (R := R) st x K) := by
  intro R K
  unfold evEntry
  split
  · split <;> rfl
  · rfl
theorem evAppend2_nat (E : Env) (d : Nat) (st : St) (t : TypeId) (s x : Operand) (xt : TypeId) : IsNat2 (fun R K => evAppend2 (R := R) E d st t s x xt K) := by
  intro R K
  unfold evAppend2
  split
  · exact (IsNat2.bif _ .none (evAppend_nat _ _ _ _ _ _ _)) R K
  · exact evAppend_nat _ _ _ _ _ _ _ R K
theorem evMakeSlice_nat (E : Env) (d : Nat) (st : St) (t : TypeId) (n c : Operand) : IsNat2 (fun R K => evMakeSlice (R := R) E d st t n c K) := by
  intro R K
  unfold evMakeSlice
  split
  · revert R K
    refine (wInt_nat _ _).comp2 fun n => (wInt_nat _ _).comp2 fun c => ?_
    intro R K
    split
    · exact (IsNat2.bif _ ((wNew_nat _ _ _ _).comp2 fun st => .ret _ _) .none) R K
    · rfl
  · rfl
theorem evOp_nat (E : Env) {ρ : RhoF} (hρ : RhoNat ρ) (o : Oper) (st : St) : IsNat2 (fun R K => evOp E (ρ R) o st K) := by
  intro R K
  unfold evOp
  simp only
  split
  · split
    · split
      · exact ((wNew_nat _ _ _ _).comp2 fun st => .ret _ _) R K
      · rfl
    · rfl
  · split
    · exact ((wNew_nat _ _ _ _).comp2 fun st => .ret _ _) R K
    · exact (IsNat2.bif _ (.ret _ _) .none) R K
  · exact (IsNat2.bif _ ((wCells_nat _ _ _).comp2 fun cs => .ret _ _) .none) R K
  · split
    · exact (IsNat2.bif _ ((wParts_nat _ _ _ _ _ _).comp2 fun es st => (wNew_nat _ _ _ _).comp2 fun st => .ret _ _) .none) R K
    · rfl
  · split
    · rfl
    · exact ((evLoad_nat _ _ _ _).comp2 fun v => .ret _ _) R K
  · exact ((evStore2_nat _ _ _ _ _).comp2 fun st' => .ret _ _) R K
  · exact evLookup_nat _ _ _ _ _ _ _ R K
  · exact ((evMapSet_nat _ _ _ _ _ _).comp2 fun st' => .ret _ _) R K
  · exact ((evMapSet_nat _ _ _ _ _ _).comp2 fun st' => .ret _ _) R K
  · exact evMapEntry_nat _ _ _ _ _ R K
  · exact ((evEntryStore_nat _ _ _ _ _ _).comp2 fun st' => .ret _ _) R K
  · rfl
  · exact (IsNat2.bif _ (evRange_nat _ _ _) .none) R K
  · exact evNext_nat _ _ R K
  · exact ((evEntry_nat _ _).comp2 fun v => .ret _ _) R K
  · exact evMakeSlice_nat _ _ _ _ _ _ R K
  · exact evConv_nat _ _ _ _ _ _ R K
  · exact (IsNat2.bif _ (evAppend2_nat _ _ _ _ _ _ _) .none) R K
  · revert R K
    refine IsNat2.bif _ ?_ .none
    intro R K
    split
    · rename_i g rs _
      revert R K
      refine IsNat2.bif _ .none ?_
      intro R K
      try dsimp only
      rcases hρ (unb g) with h | ⟨F, h1, h2⟩ | ⟨F, h1, h2⟩
      · rw [h R, h (GV × St)]; rfl
      · rw [h1 R, h1 (GV × St)]
        simp only
        split
        · exact ((wPures_nat _ _ _ _).comp2 fun vs st' => (h2 vs).comp2 fun v => IsNat2.bif _ (.ret _ _) (.ret _ _)) R K
        · rfl
      · rw [h1 R, h1 (GV × St)]
        exact callHeap_nat E _ st _ h2 R K
    · rfl
  · exact calm2 E hρ o st st R K
theorem opRec_nat (E : Env) (ex : Bool) {ρ : RhoF} (hρ : RhoNat ρ) (o : Oper) (s : St) : IsNat2 (fun R K => opRec E ex (ρ R) o s K) := by
  refine IsNat2.bif _ ?_ .none
  exact (evOp_nat E hρ o _).comp2 fun v s1 => outRec_nat E ex _ s _ v _
theorem evOps_nat (E : Env) (n : Nat) {ρ : RhoF} (hρ : RhoNat ρ) (all : List Oper) : ∀ (l : List Oper) (st : St), IsNat (fun R K => evOps E n (ρ R) all l st K)
  | [], st => .ret _
  | o :: l, st => by
    intro R K
    simp only [evOps]
    revert R K
    refine IsNat.bif _ ?_ .none
    intro R K
    split
    · exact ((evOp_nat E hρ o st).comp fun v st => evOps_nat E n hρ all l _) R K
    · split
      · split
        · exact evOps_nat E n hρ all l _ R K
        revert R K
        refine (splitB_nat _ _).comp fun b st => ?_
        intro R K
        split
        · exact ((evOp_nat E hρ o st).comp fun v st => evOps_nat E n hρ all l _) R K
        · exact evOps_nat E n hρ all l _ R K
      · rfl
theorem evRec_nat (E : Env) (ex : Bool) {ρ : RhoF} (hρ : RhoNat ρ) (o : Oper) (st : St) : IsNat2 (fun R K => evRec E ex (ρ R) o st K) := by
  intro R K
  unfold evRec
  simp only
  split
  · split
    · split
      · exact (IsNat2.bif _ .none (.ret _ _)) R K
      · rfl
    · rfl
  · exact (IsNat2.bif _ (.ret _ _) .none) R K
  · exact (IsNat2.bif _ ((wCells_nat _ _ _).comp2 fun cs => IsNat2.bif _ .none (.ret _ _)) .none) R K
  · split
    · exact (IsNat2.bif _ (IsNat2.bif _ ((wParts0_nat _ _ _ _ _ _).comp2 fun es => .ret _ _) .none) (opRec_nat E ex hρ o st)) R K
    · rfl
  · split
    · split
      · exact ((wCells_nat _ _ _).comp2 fun xs => IsNat2.bif _ (.ret _ _) .none) R K
      · rfl
    · exact opRec_nat E ex hρ o st R K
  · split
    · exact opRec_nat E ex hρ o st R K
    · exact calm2 E hρ o st _ R K
  · exact opRec_nat E ex hρ o st R K
  · exact opRec_nat E ex hρ o st R K
  · exact opRec_nat E ex hρ o st R K
  · revert R K
    refine IsNat2.bif _ ?_ .none
    intro R K
    split
    · revert R K
      refine IsNat2.bif _ .none ?_
      refine (wSl_nat _ _ _ _).comp2 fun xs => ?_
      intro R K
      split
      · split
        · exact (IsNat2.bif _ (.ret _ _) .none) R K
        · rfl
      · exact (IsNat2.bif _ (.ret _ _) .none) R K
      · rfl
    · rfl
  · split
    · rename_i g rs _
      revert R K
      refine IsNat2.bif _ .none ?_
      intro R K
      try dsimp only
      rcases hρ (unb g) with h | ⟨F, h1, h2⟩ | ⟨F, h1, h2⟩
      · rw [h R, h (GV × Delta)]
        rfl
      · rw [h1 R, h1 (GV × Delta)]
        simp only
        split
        · exact calm2 E hρ o st _ R K
        · exact opRec_nat E ex hρ o st R K
      · rw [h1 R, h1 (GV × Delta)]
        exact (IsNat2.bif _ (callRec_nat E ex _ st _ h2) .none) R K
    · rfl
  · exact calm2 E hρ o st _ R K
theorem evDraw_nat (E : Env) (n : Nat) {ρ : RhoF} (hρ : RhoNat ρ) (all : List Oper) : ∀ (l : List Oper) (k : Nat) (tab : List Nat) (st : St) (recs : List (Rec × St)), IsNat (fun R K => evDraw E n (ρ R) all l k tab st recs K)
  | [], k, tab, st, recs => .ret _
  | o :: l, k, tab, st, recs => by
    intro R K
    simp only [evDraw]
    revert R K
    refine IsNat.bif _ ?_ .none
    intro R K
    split
    · exact ((evRec_nat E _ hρ o _).comp fun v D => IsNat.bif _ (evDraw_nat E n hρ all l _ _ _ _) .none) R K
    · split
      · split
        · exact (IsNat.bif _ (evDraw_nat E n hρ all l _ _ _ _) .none) R K
        revert R K
        refine (splitB_nat _ _).comp fun b st => ?_
        intro R K
        split
        · exact ((evRec_nat E _ hρ o _).comp fun v D => IsNat.bif _ (evDraw_nat E n hρ all l _ _ _ _) .none) R K
        · exact (IsNat.bif _ (evDraw_nat E n hρ all l _ _ _ _) .none) R K
      · rfl
theorem argRows_nat (E : Env) {ρ : RhoF} (hρ : RhoNat ρ) (st : St) (all : List Oper) (R S : Type) : argRows E (ρ R) st all = argRows E (ρ S) st all := by
  unfold argRows
  rw [List.flatMap_def, List.flatMap_def]
  congr 1
  apply List.map_congr_left
  intro o _
  split
  · rename_i g _ _ _
    cases flatT E 6 o.type
    all_goals try dsimp only
    all_goals try rfl
    rcases hρ g with h | ⟨F, h1, h2⟩ | ⟨F, h1, h2⟩
    · rw [h R, h S]
    · rw [h1 R, h1 S]
    · rw [h1 R, h1 S]
  · rfl
theorem exec_nat (E : Env) (n : Nat) {ρ : RhoF} (hρ : RhoNat ρ) {Λ : LamF} : ∀ (c : Code), LamNat Λ c → ∀ (st : St), IsNat2 (fun R K => exec E n (ρ R) (Λ R) c st K) := by
  intro c
  induction c with
  | skip => intro _ st; exact .ret _ _
  | region id ops draw =>
    intro _ st
    cases draw with
    | false => exact (evOps_nat E n hρ _ _ st).comp2 fun st => .ret _ _
    | true =>
      intro R K
      simp only [exec]
      try dsimp only
      rw [argRows_nat E hρ st ops.toList R (Exit × St)]
      exact ((evDraw_nat E n hρ _ _ _ _ _ _).comp2 fun st => .ret _ _) R K
  | seq x y ihx ihy =>
    intro hΛ st
    replace ihx := ihx ⟨fun c' h => hΛ.1 c' (by simp [loops, h]), fun b h => hΛ.2 b (by simp [seconds, h])⟩
    replace ihy := ihy ⟨fun c' h => hΛ.1 c' (by simp [loops, h]), fun b h => hΛ.2 b (by simp [seconds, h])⟩
    refine (ihx st).comp2 fun e st => ?_
    intro R K
    cases e with
    | normal =>
      simp only
      try dsimp only
      rcases hΛ.2 y (by simp [seconds]) with h | ⟨L, h1, h2⟩
      · rw [h R, h (Exit × St)]
        exact ihy st R K
      · rw [h1 R, h1 (Exit × St)]
        exact h2 st R K
    | _ => rfl
  | cond c x y ihx ihy =>
    intro hΛ st
    replace ihx := ihx ⟨fun c' h => hΛ.1 c' (by simp [loops, h]), fun b h => hΛ.2 b (by simp [seconds, h])⟩
    replace ihy := ihy ⟨fun c' h => hΛ.1 c' (by simp [loops, h]), fun b h => hΛ.2 b (by simp [seconds, h])⟩
    refine (splitB_nat _ _).comp2 fun b st => ?_
    intro R K
    cases b with
    | true => exact ihx st R K
    | false => exact ihy st R K
  | block id x ih =>
    intro hΛ st
    replace ih := ih ⟨fun c' h => hΛ.1 c' (by simp [loops, h]), fun b h => hΛ.2 b (by simp [seconds, h])⟩
    refine (ih st).comp2 fun e st => ?_
    intro R K
    cases e with
    | exit j => exact (IsNat2.bif _ (.ret _ _) (.ret _ _)) R K
    | _ => rfl
  | loop x ih =>
    intro hΛ st R K
    simp only [exec]
    try dsimp only
    rcases hΛ.1 x (by simp [loops]) with h | ⟨L, h1, h2⟩
    · rw [h R, h (Exit × St)]; rfl
    · rw [h1 R, h1 (Exit × St)]
      exact h2 st R K
  | scope x ih =>
    intro hΛ st
    replace ih := ih ⟨fun c' h => hΛ.1 c' (by simp [loops, h]), fun b h => hΛ.2 b (by simp [seconds, h])⟩
    refine (ih st).comp2 fun e st => ?_
    intro R K
    cases e <;> rfl
  | label l => intro _ st; exact .ret _ _
  | exit id => intro _ st; exact .ret _ _
  | ret => intro _ st; exact .ret _ _
  | _ => intro _ st; exact .none

theorem wResults_nat (E : Env) : ∀ (l : List (ResultVar × TypeId)) (st : St) (acc : List PV), IsNat (fun R K => wResults (R := R) E l st acc K)
  | [], st, acc => .ret _
  | (.tmp t, ty) :: l, st, acc => (wPure_nat E _ ty (.tmp t)).comp fun v st => wResults_nat E l st _
  | (.cell a t, ty) :: l, st, acc => by
    refine (evLoad_nat E st t _).comp fun v => (evLoad_nat E _ t _).comp fun v => ?_
    intro R K
    split
    · exact wResults_nat E l _ _ R K
    · rfl
theorem gResults_nat (E : Env) : ∀ (l : List ResultVar) (st : St) (acc : List GV), IsNat (fun R K => gResults (R := R) E l st acc K)
  | [], st, acc => .ret _
  | .tmp t :: l, st, acc => gResults_nat E l st _
  | .cell a t :: l, st, acc => (evLoad_nat E st t _).comp fun v => gResults_nat E l st _
theorem retPure_nat (E : Env) (fn : Func) (e : Exit) (st : St) : IsNat (fun R K => retPure (R := R) E fn K e st) := by
  have h : IsNat (fun R K => wResults (R := R) E (fn.results.toList.zip fn.resultTypes.toList) st [] (oneOrAll K)) := by
    refine (wResults_nat E _ st []).comp fun vs => ?_
    intro R K
    unfold oneOrAll
    split <;> rfl
  cases e <;> first | exact h | exact .none
theorem retHeap_nat (E : Env) (fn : Func) (e : Exit) (st : St) : IsNat2 (fun R K => retHeap (R := R) E fn K e st) := by
  have h : IsNat2 (fun R K => gResults (R := R) E fn.results.toList st [] fun us => heapOut E fn ((st.foldAll E (newRows us)).freezeAll E (newRows us)) K) := by
    refine (gResults_nat E _ st []).comp2 fun us => ?_
    unfold heapOut
    refine (gResults_nat E _ _ []).comp2 fun vs => ?_
    intro R K
    unfold gOneOrAll
    split
    · rfl
    · split <;> rfl
  cases e <;> first | exact h | exact .none
theorem execPure_nat (E : Env) {ρ : RhoF} (hρ : RhoNat ρ) {Λ : LamF} (fn : Func) (hΛ : ∀ c, fn.body = some c → LamNat Λ c) (args : List PV) : IsNat (fun R K => execPure E (ρ R) (Λ R) fn args K) := by
  refine IsNat.bif _ ?_ .none
  intro R K
  split
  · rename_i c hc
    exact ((exec_nat E fn.ntmps hρ c (hΛ c hc) _).comp fun e st => retPure_nat E fn e st) R K
  · rfl
theorem execHeap_nat (E : Env) {ρ : RhoF} (hρ : RhoNat ρ) {Λ : LamF} (fn : Func) (hΛ : ∀ c, fn.body = some c → LamNat Λ c) (args : List GV) (H : List (Nat × Ob)) : IsNat2 (fun R K => execHeap E (ρ R) (Λ R) fn args H K) := by
  refine IsNat2.bif _ ?_ .none
  intro R K
  split
  · rename_i c hc
    exact ((exec_nat E fn.ntmps hρ c (hΛ c hc) _).comp2 fun e st => retHeap_nat E fn e st) R K
  · rfl
end Go.Dip
end

/- An ideal semantics of the model's code, part 30: functions. -/
section
set_option linter.unusedVariables false
set_option linter.unusedSimpArgs false
namespace Go.Dip
section
variable {R : Type} {r : R} {P : Program} {E : Env} {tB : TypeId} {W0 : World}

def resVal (tmps : Array Value) : ResultVar → Sem Value
  | .tmp t => pure (tmps.getD t undef)
  | .cell a t => do loadVar t (← asAddr (tmps.getD a undef))
theorem results_run {fn : Func} {tmps : Array Value} {xs : List Value} {w : World} (h : (fn.results.toList.mapM (resVal tmps)).run P w = .ok xs w) :
    (results fn tmps).run P w = .ok (if h : xs.toArray.size = 1 then xs.toArray[0] else .tuple xs.toArray) w := by
  have e : results fn tmps = (do let vs ← fn.results.mapM (resVal tmps); pure (if h : vs.size = 1 then vs[0] else .tuple vs)) := by
    unfold results
    congr 1
  rw [e, Array.mapM_eq_mapM_toList]
  simp only [Sem.run_bind, map_eq_pure_bind, h, Result.andThen_ok, Sem.run_pure]
theorem cell_run {t : TypeId} {x y : Value} {w : World} (h : (Instr.loadAt t x).run P w = .ok y w) : (do loadVar t (← asAddr x) : Sem Value).run P w = .ok y w := by
  unfold Instr.loadAt Instr.sureAddr at h
  cases x with
  | pointer a =>
    cases a with
    | some ad => simpa [asAddr] using h
    | none => simp at h
  | _ => simp at h
theorem cons_run {α β : Type} {f : α → Sem β} {x : α} {l : List α} {y : β} {ys : List β} {w : World} (h1 : (f x).run P w = .ok y w) (h2 : (l.mapM f).run P w = .ok ys w) : ((x :: l).mapM f).run P w = .ok (y :: ys) w := by
  rw [List.mapM_cons]
  simp only [Sem.run_bind, h1, h2, Result.andThen_ok, Sem.run_pure]

theorem wResults_inv (hE : EnvOk P E tB) : ∀ {l : List (ResultVar × TypeId)} {st : St} {acc : List PV} {K : List PV → Option R}, wResults E l st acc K = some r →
    ∃ vs, K (acc.reverse ++ vs) = some r ∧ vs.length = l.length ∧ ∀ {X : Cx} {n : Nat} {I : Mem} {μ : Locs} {a : Act} {w : World}, X.E = E → RowsOk μ → Sim X n I μ st a w →
      ∃ J st' xs, NewI X I J ∧ Sim X n J μ st' a w ∧ ((l.map fun x => x.1).mapM (resVal a.tmps)).run P w = .ok xs w ∧ xs.length = l.length ∧ ∀ i, i < vs.length → RepP J (vs.getD i .any) (xs.getD i undef)
  | [], st, acc, K, h => ⟨[], by simpa [wResults] using h, rfl, fun {X n I μ a w} hX hr hs => ⟨I, st, [], NewI.refl X I, hs, rfl, rfl, fun i hi => by simp at hi⟩⟩
  | (.tmp t, ty) :: l, st, acc, K, h => by
    simp only [wResults] at h
    obtain ⟨y, st1, h, hp⟩ := wPure_inv h
    obtain ⟨vs, h1, h2, h3⟩ := wResults_inv hE h
    refine ⟨y :: vs, by simpa using h1, by simp [h2], fun {X n I μ a w} hX hr hs => ?_⟩
    have hsf := hs.foldAll (st.get t).rows
    rw [hX] at hsf
    obtain ⟨J, k1, k2, k3⟩ := hp.does hX hsf
    obtain ⟨L, st', xs, m1, m2, m3, m4, m5⟩ := h3 hX hr k2
    refine ⟨L, st', a.tmps.getD t undef :: xs, k1.trans m1, m2, cons_run (Sem.run_pure ..) m3, by simp [m4], fun i hi => ?_⟩
    cases i with
    | zero => exact k3.mono m1.1
    | succ i => simpa using m5 i (by simpa using hi)
  | (.cell ad t, ty) :: l, st, acc, K, h => by
    simp only [wResults] at h
    obtain ⟨v0, h, _⟩ := evLoad_inv hE h
    obtain ⟨v, h, hv⟩ := evLoad_inv hE h
    split at h
    · rename_i y hy
      obtain ⟨vs, h1, h2, h3⟩ := wResults_inv hE h
      refine ⟨y :: vs, by simpa using h1, by simp [h2], fun {X n I μ a w} hX hr hs => ?_⟩
      subst hX
      obtain ⟨J, k1, k2⟩ := (hs.foldAll v0.rows).freezeAll v0.rows
      obtain ⟨x, k3, k4⟩ := hv rfl hr k2 (k2.get ad)
      obtain ⟨L, st', xs, m1, m2, m3, m4, m5⟩ := h3 rfl hr k2
      refine ⟨L, st', x :: xs, k1.trans m1, m2, cons_run (cell_run k3) m3, by simp [m4], fun i hi => ?_⟩
      cases i with
      | zero => exact (pure_rep hy k4).mono m1.1
      | succ i => simpa using m5 i (by simpa using hi)
    · cases h

/-- The act at a function's beginning. -/
def act0 (n : Nat) (as : Array Value) : Act := { tmps := as ++ Array.replicate (n - as.size) undef, defers := [] }
theorem args0_look : ∀ (vs : List GV) (k i : Nat) (v : GV), look (args0 k vs) i = some v → k ≤ i ∧ vs[i - k]? = some v
  | [], k, i, v, h => by simp [args0, look] at h
  | x :: vs, k, i, v, h => by
    simp only [args0, look_cons] at h
    by_cases e : i = k
    · rw [if_pos e] at h
      subst e
      exact ⟨Nat.le_refl _, by simpa using h⟩
    · rw [if_neg e] at h
      obtain ⟨h1, h2⟩ := args0_look vs (k + 1) i v h
      refine ⟨by omega, ?_⟩
      have e2 : i - k = (i - (k + 1)) + 1 := by omega
      rw [e2, List.getElem?_cons_succ]
      exact h2

theorem Sim.begin {X : Cx} {n : Nat} {I : Mem} {μ : Locs} {w : World} {args : List GV} {H : List (Nat × Ob)} {as : Array Value} (hn : as.size ≤ n) (hl : as.size = args.length) (ha : ∀ i, i < args.length → RepG I μ (args.getD i .any) (as.getD i undef))
    (hh : HeapOk X I μ w H) (him : ImmOk X I w) (hB : X.B ≤ w.heap.size) (h1 : X.w1 = w) (hdf : X.df = []) (hcx : CxOk X) (hb : RowKit.Below X.W0.heap.size X.W0 w) : Sim X n I μ { t := args0 0 args, h := H } (act0 n as) w := by
  refine ⟨by simp [act0]; omega, hdf.symm, fun i v hv => ?_, hh, him, hB, ?_, hcx, hb⟩
  · obtain ⟨_, h2⟩ := args0_look args 0 i v hv
    rw [Nat.sub_zero] at h2
    have hi : i < args.length := (List.getElem?_eq_some_iff.1 h2).1
    have := ha i hi
    rw [List.getD_eq_getElem?_getD, h2] at this
    have e : (act0 n as).tmps.getD i undef = as.getD i undef := by
      simp only [act0]
      rw [agetD, agetD, Array.toList_append]
      simp only [List.getD_eq_getElem?_getD]
      rw [List.getElem?_append_left (by simp; omega)]
    rw [e]
    exact this
  · rw [h1]
    exact ⟨rfl, rfl, rfl, Nat.le_refl _, fun b o hb _ _ => hb⟩

theorem pureFn_of {ρ : RhoF} {Λ : LamF} (hE : EnvOk P E tB) (hρN : RhoNat ρ) {c : Code} (hΛN : LamNat Λ c) (hρ : ∀ R, RhoOk P E tB W0 (ρ R)) {f : FuncId} {fn : Func} (hf : P.funcs[f]? = some fn) (hname : (fn.name == "runtime.NumGoroutine") = false) (hb : fn.body = some c)
    (hL : ∀ (R : Type) c', c' ∈ loops c → ∀ L, Λ R (2 * fr c') = some L → LoopOk P E tB W0 fn.ntmps c' L) (hC : ∀ (R : Type) b, b ∈ seconds c → ∀ J, Λ R (2 * fr b + 1) = some J → CutOk E fn.ntmps (ρ R) (Λ R) b J)
    {args : List PV} {v : GV} (h : execPure E (ρ GV) (Λ GV) fn args some = some v) : PureFn P E W0 f args v := by
  unfold execPure at h
  cases hc : Nat.ble args.length fn.ntmps && Nat.beq fn.results.size fn.resultTypes.size
  · rw [hc] at h; exact absurd h (by simp)
  · simp only [hc, cond_true, hb] at h
    simp only [Bool.and_eq_true, nbeq, decide_eq_true_eq] at hc
    have hle := Nat.le_of_ble_eq_true hc.1
    have hvs : ∀ vs, oneOrAll (R := GV) some vs = some v → v.keys = [] ∧ ((∃ y, vs = [y] ∧ v = .pv y) ∨ (vs.length ≠ 1 ∧ v = .tup (vs.map .p))) := by
      intro vs h
      unfold oneOrAll at h
      split at h
      · rename_i y
        injection h with h
        subst h
        exact ⟨rfl, .inl ⟨y, rfl, rfl⟩⟩
      · rename_i hne
        injection h with h
        subst h
        refine ⟨?_, .inr ⟨fun h1 => ?_, rfl⟩⟩
        · simp only [GV.keys, List.flatMap_map, CV.keys]
          simp
        · obtain ⟨y, hy⟩ := List.length_eq_one_iff.1 h1
          exact hne y hy
    refine ⟨?_, ?_⟩
    · -- without a run
      have hn := (exec_nat E fn.ntmps hρN c hΛN { t := args0 0 (args.map .pv), h := [] }) GV (retPure E fn some)
      dsimp only at hn
      rw [h] at hn
      obtain ⟨p, _, hp⟩ := Option.bind_eq_some_iff.1 hn.symm
      have hw : wResults E (fn.results.toList.zip fn.resultTypes.toList) p.2 [] (oneOrAll some) = some v := by
        revert hp
        cases p.1 <;> intro hp <;> first | exact hp | (simp [retPure] at hp)
      obtain ⟨vs, h1, _⟩ := wResults_inv hE hw
      exact (hvs _ h1).1
    · intro X I w as hX hW him hB hW0 hbel hl ha
      let X' : Cx := { E := E, tB := tB, B := w.heap.size, S := fun _ => False, hb := false, bb := 0, w1 := w, W0 := W0 }
      have him' : ImmOk X' I w := by
        intro b o u hu
        rcases him b o u hu with ⟨h0, arr, T, fz, h1, h2, _⟩ | k
        · exact .inl ⟨h0, arr, T, fz, h1, h2, .inl (Array.getElem?_eq_some_iff.1 h1).1⟩
        · exact .inr k
      have hheap : HeapOk X' I (fun _ => none) w [] := ⟨fun _ => [], fun r o ho => by simp [look] at ho, fun r o ho => by simp [look] at ho, fun r _ o _ ho => by simp [look] at ho, fun r o ho => by simp [look] at ho, fun r o ho => by simp [look] at ho, fun r _ o _ ho => by simp [look] at ho⟩
      have hs0 : Sim X' fn.ntmps I (fun _ => none) { t := args0 0 (args.map .pv), h := [] } (act0 fn.ntmps as) w := by
        refine Sim.begin (by omega) (by simpa using hl) (fun i hi => ?_) hheap him' (Nat.le_refl _) rfl rfl ⟨fun k hk => hk.elim, Nat.le_trans hW0 hB, Nat.le_trans hW0 hB⟩ hbel
        have hi' : i < args.length := by simpa using hi
        have e : (args.map GV.pv).getD i .any = .pv (args.getD i .any) := by simp [List.getD_eq_getElem?_getD, hi']
        rw [e]
        exact ha i hi'
      refine Meets.of (enters_of hf hname (by rw [hb]; rfl)) (calls_of_wp hf hb ?_)
      refine exec_sound (X := X') (μ := fun _ => none) hE (hρ GV) c (hL GV) (hC GV) h rfl rfl rfl (fun r v c h => by cases h) hs0 ?_
      intro e st hK J ν a' w' m1 m2 m3 m4
      have hw : wResults E (fn.results.toList.zip fn.resultTypes.toList) st [] (oneOrAll some) = some v ∧ (e = .normal ∨ e = .ret) := by
        revert hK
        cases e <;> intro hK <;> first | exact ⟨hK, .inl rfl⟩ | exact ⟨hK, .inr rfl⟩ | (simp [retPure] at hK)
      obtain ⟨vs, k1, k2, k3⟩ := wResults_inv hE hw.1
      obtain ⟨L, st', xs, n1, n2, n3, n4, n5⟩ := k3 rfl m2 m4
      simp only [List.reverse_nil, List.nil_append] at k1
      have hmap : (fn.results.toList.zip fn.resultTypes.toList).map (fun x => x.1) = fn.results.toList := by
        rw [List.map_fst_zip]
        simp [hc.2]
      rw [hmap] at n3
      have hres := results_run n3
      have hNI := m1.trans n1
      have hbelow : RowKit.Below w.heap.size w w' := by
        refine ⟨m4.fr.os, m4.fr.tape, m4.fr.output, m4.fr.size, fun k hk => ?_⟩
        have e1 : w.heap[k]? = some w.heap[k] := by simp [hk]
        rw [e1]
        exact m4.fr.keep k _ e1 (fun h => h) (fun h => by cases h)
      have hpost : a'.defers = [] ∧ ∃ x, (results fn a'.tmps).run P w' = .ok x w' ∧ ∃ x' J', Ending.returned x = .returned x' ∧ RepG J' (fun _ => none) v x' ∧ MemLe I J' ∧ (∀ b o u, J' b o = some u → I b o = some u ∨ w.heap.size ≤ b) ∧ ImmOk X J' w' ∧ RowKit.Below w.heap.size w w' := by
        refine ⟨m4.defers, _, hres, _, L, rfl, ?_, hNI.1, fun b o u hu => ?_, ?_, hbelow⟩
        · rcases (hvs vs k1).2 with ⟨y, rfl, rfl⟩ | ⟨hne, rfl⟩
          · have hx1 : xs.length = 1 := by rw [n4, ← k2]; rfl
            obtain ⟨x, rfl⟩ := List.length_eq_one_iff.1 hx1
            have : RepP L y x := by simpa using n5 0 (by simp)
            exact this
          · have hx1 : xs.toArray.size ≠ 1 := by simp [n4, ← k2]; exact hne
            rw [dif_neg hx1]
            refine ⟨xs.toArray, rfl, by simp [n4, ← k2], fun i u hu => ?_⟩
            rw [List.getElem?_map] at hu
            obtain ⟨y, hy, rfl⟩ := Option.map_eq_some_iff.1 hu
            have hi : i < vs.length := (List.getElem?_eq_some_iff.1 hy).1
            have := n5 i hi
            rw [List.getD_eq_getElem?_getD, hy] at this
            rw [agetD]
            exact this
        · rcases hNI.2 b o u hu with h | h | h
          · exact .inl h
          · exact h.elim
          · exact .inr h
        · intro b o u hu
          refine (n2.im b o u hu).elim (fun ⟨q0, arr, T, fz, q1, q2, q3⟩ => ?_) .inr
          refine .inl ⟨q0, arr, T, fz, q1, q2, ?_⟩
          rcases hNI.2 b o u hu with h | h | h
          · obtain ⟨arr', T', fz', p1, p2, p3⟩ := him.cell h q0
            have hlt := (Array.getElem?_eq_some_iff.1 p1).1
            rw [hbelow.block b hlt, p1] at q1
            injection q1 with q1
            injection q1 with _ q1 _
            rw [← q1]
            exact p3
          · exact h.elim
          · rcases q3 with q3 | q3
            · have q3' : b < w.heap.size := q3
              have h' : w.heap.size ≤ b := h
              omega
            · rw [hX]; exact .inr q3
      rcases hw.2 with rfl | rfl
      · exact hpost
      · exact hpost

theorem RepG.norm {I : Mem} {μ : Locs} {v : GV} {x : Value} (h : RepG I μ v x) : RepG I μ v.norm x := by
  unfold GV.norm
  split
  · rename_i y hy; exact pure_rep hy h
  · exact h
theorem gResults_inv (hE : EnvOk P E tB) : ∀ {l : List ResultVar} {st : St} {acc : List GV} {K : List GV → Option R}, gResults E l st acc K = some r →
    ∃ vs, K (acc.reverse ++ vs) = some r ∧ vs.length = l.length ∧ ∀ {X : Cx} {n : Nat} {I : Mem} {μ : Locs} {a : Act} {w : World}, X.E = E → RowsOk μ → Sim X n I μ st a w →
      ∃ xs, (l.mapM (resVal a.tmps)).run P w = .ok xs w ∧ xs.length = l.length ∧ ∀ i, i < vs.length → RepG I μ (vs.getD i .any) (xs.getD i undef)
  | [], st, acc, K, h => ⟨[], by simpa [gResults] using h, rfl, fun {X n I μ a w} hX hr hs => ⟨[], rfl, rfl, fun i hi => by simp at hi⟩⟩
  | .tmp t :: l, st, acc, K, h => by
    simp only [gResults] at h
    obtain ⟨vs, h1, h2, h3⟩ := gResults_inv hE h
    refine ⟨(st.get t).norm :: vs, by simpa using h1, by simp [h2], fun {X n I μ a w} hX hr hs => ?_⟩
    obtain ⟨xs, m3, m4, m5⟩ := h3 hX hr hs
    refine ⟨a.tmps.getD t undef :: xs, cons_run (Sem.run_pure ..) m3, by simp [m4], fun i hi => ?_⟩
    cases i with
    | zero => exact (hs.get t).norm
    | succ i => simpa using m5 i (by simpa using hi)
  | .cell ad t :: l, st, acc, K, h => by
    simp only [gResults] at h
    obtain ⟨v, h, hv⟩ := evLoad_inv hE h
    obtain ⟨vs, h1, h2, h3⟩ := gResults_inv hE h
    refine ⟨v.norm :: vs, by simpa using h1, by simp [h2], fun {X n I μ a w} hX hr hs => ?_⟩
    obtain ⟨x, k3, k4⟩ := hv hX hr hs (hs.get ad)
    obtain ⟨xs, m3, m4, m5⟩ := h3 hX hr hs
    refine ⟨x :: xs, cons_run (cell_run k3) m3, by simp [m4], fun i hi => ?_⟩
    cases i with
    | zero => exact k4.norm
    | succ i => simpa using m5 i (by simpa using hi)
theorem allC_inv : ∀ {vs : List GV} {cs : List CV}, allC vs = some cs → vs = cs.map .c
  | [], cs, h => by simp [allC] at h; subst h; rfl
  | .c v :: l, cs, h => by
    simp only [allC] at h
    cases hl : allC l with
    | none => simp [hl] at h
    | some ds =>
      simp only [hl, Option.some.injEq] at h
      subst h
      simp [allC_inv hl]
  | .agg _ :: l, cs, h => by simp [allC] at h
  | .tup _ :: l, cs, h => by simp [allC] at h

/-- What a function's body owes that is handed objects. -/
def HeapWp (P : Program) (E : Env) (tB : TypeId) (W0 : World) (fn : Func) (c : Code) (args : List GV) (H : List (Nat × Ob)) (v : GV) (H' : List (Nat × Ob)) : Prop :=
  ∀ (X : Cx) (I : Mem) (μ : Locs) (β : Nat → List Nat) (w : World) (as : Array Value), X.E = E → X.tB = tB → X.W0 = W0 → X.S = blocksOf β H → X.hb = hasBld H → X.w1 = w → X.df = [] → CxOk X → RowsOk μ → ImmOk X I w → X.B ≤ w.heap.size → RowKit.Below W0.heap.size W0 w →
    HeapB X I μ β w H → as.size = args.length → (∀ i, i < args.length → RepG I μ (args.getD i .any) (as.getD i undef)) →
    c.wp P (bodyPost P fn fun e w' => ∃ x J ν, e = .returned x ∧ RepG J ν v x ∧ NewI X I J ∧ (RowsOk ν ∧ Keep μ ν) ∧ ImmOk X J w' ∧ HeapOk X J ν w' H' ∧ Frame X w w') (act0 fn.ntmps as) w
theorem heapWp_of {ρ : RhoF} {Λ : LamF} (hE : EnvOk P E tB) (hρ : ∀ R, RhoOk P E tB W0 (ρ R)) {f : FuncId} {fn : Func} {c : Code} (hf : P.funcs[f]? = some fn) (hname : (fn.name == "runtime.NumGoroutine") = false) (hb : fn.body = some c)
    (hL : ∀ (R : Type) c', c' ∈ loops c → ∀ L, Λ R (2 * fr c') = some L → LoopOk P E tB W0 fn.ntmps c' L) (hC : ∀ (R : Type) b, b ∈ seconds c → ∀ J, Λ R (2 * fr b + 1) = some J → CutOk E fn.ntmps (ρ R) (Λ R) b J)
    {args : List GV} {H H' : List (Nat × Ob)} {v : GV} (h : execHeap E (ρ (GV × List (Nat × Ob))) (Λ (GV × List (Nat × Ob))) fn args H (fun v H => some (v, H)) = some (v, H')) : HeapWp P E tB W0 fn c args H v H' := by
  unfold execHeap at h
  cases hc : Nat.ble args.length fn.ntmps
  · rw [hc] at h; exact absurd h (by simp)
  · simp only [hc, cond_true, hb] at h
    have hle := Nat.le_of_ble_eq_true hc
    intro X I μ β w as hX hT hW hS hbb h1 hdf hcx hro him hB hbel hheap hl ha
    have hs0 : Sim X fn.ntmps I μ { t := args0 0 args, h := H } (act0 fn.ntmps as) w := Sim.begin (by omega) hl ha ⟨β, hheap⟩ him hB h1 hdf hcx (by rw [hW]; exact hbel)
    show c.wp P _ (act0 fn.ntmps as) w
    refine exec_sound (X := X) (μ := μ) hE (hρ _) c (hL _) (hC _) h hX hT hW hro hs0 ?_
    intro e st0 hK J0 ν a' w' m10 m2 m3 m40
    have hw0 : (gResults E fn.results.toList st0 [] fun us => heapOut E fn ((st0.foldAll E (newRows us)).freezeAll E (newRows us)) fun v H => some (v, H)) = some (v, H') ∧ (e = .normal ∨ e = .ret) := by
      revert hK
      cases e <;> intro hK <;> first | exact ⟨hK, .inl rfl⟩ | exact ⟨hK, .inr rfl⟩ | (simp [retHeap] at hK)
    obtain ⟨us, hus, _, _⟩ := gResults_inv hE hw0.1
    simp only [List.reverse_nil, List.nil_append] at hus
    obtain ⟨J, hJ0, m4⟩ : ∃ J, NewI X J0 J ∧ Sim X fn.ntmps J ν ((st0.foldAll E (newRows us)).freezeAll E (newRows us)) a' w' := by
      subst hX
      exact (m40.foldAll (newRows us)).freezeAll (newRows us)
    have m1 := m10.trans hJ0
    generalize hst : (st0.foldAll E (newRows us)).freezeAll E (newRows us) = st at hus m4
    have hw : gResults E fn.results.toList st [] (gOneOrAll fun v => some (v, left st v)) = some (v, H') ∧ (e = .normal ∨ e = .ret) := ⟨hus, hw0.2⟩
    obtain ⟨vs, k1, k2, k3⟩ := gResults_inv hE hw.1
    obtain ⟨xs, n3, n4, n5⟩ := k3 hX m2 m4
    simp only [List.reverse_nil, List.nil_append] at k1
    have hres := results_run n3
    have hrep : RepG J ν v (if h : xs.toArray.size = 1 then xs.toArray[0] else .tuple xs.toArray) ∧ H' = left st v := by
      unfold gOneOrAll at k1
      split at k1
      · rename_i y
        injection k1 with k1
        injection k1 with k1 k1'
        subst k1
        have hx1 : xs.length = 1 := by rw [n4, ← k2]; rfl
        obtain ⟨x, rfl⟩ := List.length_eq_one_iff.1 hx1
        exact ⟨by simpa using n5 0 (by simp), k1'.symm⟩
      · rename_i hne
        split at k1
        · rename_i cs hcs
          injection k1 with k1
          injection k1 with k1 k1'
          subst k1
          have hvs := allC_inv hcs
          refine ⟨?_, k1'.symm⟩
          have hx1 : xs.toArray.size ≠ 1 := by
            intro hh
            have : vs.length = 1 := by rw [k2, ← n4]; simpa using hh
            obtain ⟨y, hy⟩ := List.length_eq_one_iff.1 this
            exact hne y hy
          rw [dif_neg hx1]
          have hcl : cs.length = xs.length := by rw [n4, ← k2, hvs]; simp
          refine ⟨xs.toArray, rfl, by simp [hcl], fun i u hu => ?_⟩
          have hi : i < vs.length := by rw [hvs]; simpa using (List.getElem?_eq_some_iff.1 hu).1
          have := n5 i hi
          rw [hvs, List.getD_eq_getElem?_getD, List.getElem?_map, hu] at this
          rw [agetD]
          exact this
        · cases k1
    have hsub : Sub st { t := st.t, h := left st v } := ⟨fun i u hu => ⟨u, [], hu, rfl⟩, fun q o ho => ⟨o, [], look_footH' ho, rfl⟩⟩
    have m5 := m4.sub hsub
    have hpost : a'.defers = [] ∧ ∃ x, (results fn a'.tmps).run P w' = .ok x w' ∧ ∃ x' J' ν', Ending.returned x = .returned x' ∧ RepG J' ν' v x' ∧ NewI X I J' ∧ (RowsOk ν' ∧ Keep μ ν') ∧ ImmOk X J' w' ∧ HeapOk X J' ν' w' H' ∧ Frame X w w' := by
      refine ⟨m4.defers.trans hdf, _, hres, _, J, ν, rfl, hrep.1, m1, ⟨m2, m3⟩, m4.im, ?_, by rw [← h1]; exact m4.fr⟩
      rw [hrep.2]
      exact m5.h
    rcases hw.2 with rfl | rfl
    · exact hpost
    · exact hpost
theorem heapFn_of {ρ : RhoF} {Λ : LamF} (hE : EnvOk P E tB) (hρ : ∀ R, RhoOk P E tB W0 (ρ R)) {f : FuncId} {fn : Func} {c : Code} (hf : P.funcs[f]? = some fn) (hname : (fn.name == "runtime.NumGoroutine") = false) (hb : fn.body = some c)
    (hL : ∀ (R : Type) c', c' ∈ loops c → ∀ L, Λ R (2 * fr c') = some L → LoopOk P E tB W0 fn.ntmps c' L) (hC : ∀ (R : Type) b, b ∈ seconds c → ∀ J, Λ R (2 * fr b + 1) = some J → CutOk E fn.ntmps (ρ R) (Λ R) b J)
    {args : List GV} {H H' : List (Nat × Ob)} {v : GV} (h : execHeap E (ρ (GV × List (Nat × Ob))) (Λ (GV × List (Nat × Ob))) fn args H (fun v H => some (v, H)) = some (v, H')) : HeapFn P E tB W0 f args H v H' :=
  fun X I μ β w as hX hT hW hS hbb h1 hdf hcx hro him hB hbel hheap hl ha => Meets.of (enters_of hf hname (by rw [hb]; rfl)) (calls_of_wp hf hb (heapWp_of hE hρ hf hname hb hL hC h X I μ β w as hX hT hW hS hbb h1 hdf hcx hro him hB hbel hheap hl ha))
end
end Go.Dip
end

/- An ideal semantics of the model's code: rows told by a key of their own, wherever they came from. -/
section
set_option linter.unusedVariables false
set_option linter.unusedSimpArgs false
namespace Go.Dip

def renKey (r q k : Nat) : Nat := bif Nat.beq k r then q else k
theorem renKey_same (r q : Nat) : renKey r q r = q := by simp [renKey]
theorem renKey_ne {r q k : Nat} (h : k ≠ r) : renKey r q k = k := by simp [renKey, nbeq, h]
/-- All that is told of r is told of q. -/
def St.rename (r q : Nat) (st : St) : St :=
  { t := st.t.map fun x => (x.1, x.2.map (CV.ren (renKey r q))), h := st.h.map fun x => (renKey r q x.1, x.2.map (CV.ren (renKey r q))) }
def St.move (r q : Nat) (st : St) : St := bif Nat.beq r q then st else bif rowAt (st.strike q).h r && Nat.ble 2000 q then (st.strike q).rename r q else st
/-- Where a row is told with a key of its own: a slot; a cell of a block. -/
inductive Own where
  | slot (i q : Nat) (e : TypeId)
  | cell (b j q : Nat) (e : TypeId)
def newNil (q : Nat) (e : TypeId) (st : St) : St := newOb q (.row e []) (st.strike q)
def St.own (E : Env) (st : St) : Own → St
  | .slot i q e => match st.get i with
    | .c (.orow r) => st.move r q
    | .c (.nils _) => bif Nat.beq e E.tb || !Nat.ble 2000 q then st else (newNil q e st).put (some i) (.c (.orow q))
    | _ => st
  | .cell b j q e => match look st.h b with
    | some (.box cs) => match cs[j]? with
      | some (.orow r) => st.move r q
      | some (.nils _) => bif Nat.beq e E.tb || (!Nat.ble 2000 q || Nat.beq b q) then st else match look (newNil q e st).h b with
        | some (.box cs') => setOb b (.box (cs'.set j (.orow q))) (newNil q e st)
        | _ => st
      | _ => st
    | _ => st
def St.ownAll (E : Env) (l : List Own) (st : St) : St := l.foldl (fun st o => st.own E o) st

/-- The same, told otherwise. -/
theorem Sim.told {X : Cx} {n : Nat} {I : Mem} {μ ν : Locs} {st s : St} {a : Act} {w : World} (h : Sim X n I μ st a w) (ht : ∀ i v, look s.t i = some v → RepG I ν v (a.tmps.getD i undef))
    (f : Nat → Nat) (hf : ∀ r r' o o', look s.h r = some o → look s.h r' = some o' → f r = f r' → r = r')
    (hh : ∀ r o, look s.h r = some o → ν r = μ (f r) ∧ ∃ p, look st.h (f r) = some p ∧ (∀ bs, ObB X I μ w (f r) p bs → ObB X I ν w r o bs) ∧ o.isBld = p.isBld ∧ o.isByte X.E = p.isByte X.E) : Sim X n I ν s a w := by
  obtain ⟨β, hβ⟩ := h.h
  refine ⟨h.size, h.defers, ht, ⟨fun r => β (f r), ?_, ?_, ?_, ?_, ?_, ?_⟩, h.im, h.bw, h.fr, h.cx, h.base⟩
  · intro r o ho; obtain ⟨_, p, k1, k, _⟩ := hh r o ho; exact k _ (hβ.ok _ p k1)
  · intro r o ho; obtain ⟨_, p, k1, k, _⟩ := hh r o ho; exact hβ.nodup _ p k1
  · intro r r' o o' ho ho' hne
    obtain ⟨e1, p, k1, _⟩ := hh r o ho
    obtain ⟨e2, p', k1', _⟩ := hh r' o' ho'
    exact hβ.apart _ _ p p' k1 k1' (fun e => hne (hf r r' o o' ho ho' e))
  · intro r o ho; obtain ⟨e1, p, k1, _⟩ := hh r o ho; exact hβ.imm _ p k1
  · intro r o ho; obtain ⟨e1, p, k1, _⟩ := hh r o ho; exact hβ.own _ p k1
  · intro r r' o o' ho ho' hne hb
    obtain ⟨_, p, k1, _, k2, _⟩ := hh r o ho
    obtain ⟨_, p', k1', _, k2', k3'⟩ := hh r' o' ho'
    rw [k2] at hb
    rw [k2', k3']
    exact hβ.alone _ _ p p' k1 k1' (fun e => hne (hf r r' o o' ho ho' e)) hb

theorem drop_free {α : Type} (q : Nat) : ∀ (l : List (Nat × α)) x, x ∈ drop q l → x.1 ≠ q
  | [], x, h => by simp [drop] at h
  | y :: l, x, h => by
    simp only [drop, nbeq] at h
    by_cases e : q = y.1
    · simp only [e, decide_true, cond_true] at h
      exact e ▸ drop_free y.1 l x h
    · simp only [e, decide_false, cond_false, List.mem_cons] at h
      rcases h with rfl | h
      · exact fun k => e k.symm
      · exact drop_free q l x h
theorem look_rename {α : Type} {r q : Nat} {g : α → α} : ∀ {l : List (Nat × α)} {k : Nat} {o : α}, (∀ x, x ∈ l → x.1 ≠ q) → look (l.map fun x => (renKey r q x.1, g x.2)) k = some o → ∃ k0 p, look l k0 = some p ∧ k0 ≠ q ∧ k = renKey r q k0 ∧ o = g p
  | [], k, o, _, h => by simp [look] at h
  | x :: l, k, o, hq, h => by
    simp only [List.map_cons, look_cons] at h
    have hx := hq x (by simp)
    by_cases e : k = renKey r q x.1
    · rw [if_pos e] at h
      injection h with h
      exact ⟨x.1, x.2, by simp [look_cons], hx, e, h.symm⟩
    · rw [if_neg e] at h
      obtain ⟨k0, p, h1, h2, h3, h4⟩ := look_rename (fun y hy => hq y (by simp [hy])) h
      refine ⟨k0, p, ?_, h2, h3, h4⟩
      rw [look_cons, if_neg]
      · exact h1
      · intro e'
        rw [e'] at h3
        exact e h3

theorem GV.strike_free {st : St} {q i : Nat} {v : GV} (h : look (st.strike q).t i = some v) : q ∉ v.keys := by
  rw [look_strike_t] at h
  obtain ⟨u, _, rfl⟩ := Option.map_eq_some_iff.1 h
  exact GV.strike_keys q u
theorem Ob.strike_free {st : St} {q r : Nat} {o : Ob} (h : look (st.strike q).h r = some o) : q ∉ o.keys := by
  rw [look_strike] at h
  by_cases e : r = q
  · simp [e] at h
  · simp only [e, if_false] at h
    obtain ⟨u, _, rfl⟩ := Option.map_eq_some_iff.1 h
    exact (Ob.strike_keys q u).1

theorem Sim.move {X : Cx} {n : Nat} {I : Mem} {μ : Locs} {st : St} {a : Act} {w : World} (hr : RowsOk μ) (h : Sim X n I μ st a w) (r q : Nat) : ∃ ν, (RowsOk ν ∧ Keep μ ν) ∧ Sim X n I ν (st.move r q) a w := by
  unfold St.move
  cases hb : Nat.beq r q
  · cases hc : rowAt (st.strike q).h r && Nat.ble 2000 q
    · exact ⟨μ, ⟨hr, Keep.refl μ⟩, h⟩
    · simp only [Bool.and_eq_true, Nat.ble_eq] at hc
      obtain ⟨hc, hq⟩ := hc
      have hs := h.strike q (ν := μ) fun _ _ => rfl
      simp only [cond_true, cond_false]
      obtain ⟨ob, hl, hrow⟩ : ∃ ob, look (st.strike q).h r = some ob ∧ ob.isRow = true := by
        cases hl : look (st.strike q).h r with
        | none => unfold rowAt at hc; rw [hl] at hc; cases hc
        | some ob => exact ⟨ob, rfl, by rw [← rowAt_iff hl]; exact hc⟩
      · obtain ⟨v, c0, hv⟩ : ∃ v c0, μ r = some (.row v c0) := by
          obtain ⟨l, l1, l2, _⟩ := (hs.h.choose_spec.ok r _ hl).loc
          rw [hrow] at l2
          cases l with
          | row v c0 => exact ⟨v, c0, l1⟩
          | _ => cases l2
        have hrq : r ≠ q := by
          intro e; subst e; rw [nbeq] at hb; simp at hb
        let ν := upd μ q (.row v c0)
        have key : ∀ k, k ≠ q → ν (renKey r q k) = μ k := by
          intro k hk
          by_cases e : k = r
          · rw [e, renKey_same, hv]; exact upd_same ..
          · rw [renKey_ne e]; exact upd_ne μ _ hk
        refine ⟨ν, ⟨hr.upd q _ fun v' c e => ?_, fun k l h1 h2 h3 => ⟨l, ?_, l.later_refl⟩⟩, ?_⟩
        · injection e with e1 e2
          subst e1
          exact hr r _ _ hv
        · exact (upd_ne μ _ (by omega)).trans h3
        · have hfree : ∀ x, x ∈ (st.strike q).h → x.1 ≠ q := by
            intro x hx
            simp only [St.strike, St.map, List.mem_map] at hx
            obtain ⟨y, hy, rfl⟩ := hx
            exact drop_free q st.h y hy
          have back : ∀ k o, look ((st.strike q).rename r q).h k = some o → ∃ k0 p, look (st.strike q).h k0 = some p ∧ k0 ≠ q ∧ k = renKey r q k0 ∧ o = p.map (CV.ren (renKey r q)) := fun k o ho => look_rename hfree ho
          refine hs.told (fun i v hv => ?_) (renKey q r) (fun k k' o o' ho ho' e => ?_) (fun k o ho => ?_)
          · have : look ((st.strike q).t.map fun x => (x.1, x.2.map (CV.ren (renKey r q)))) i = some v := hv
            rw [look_map (fun v => GV.map (CV.ren (renKey r q)) v)] at this
            obtain ⟨u, hu, rfl⟩ := Option.map_eq_some_iff.1 this
            exact (hs.t i u hu).ren fun k hk => key k fun e => GV.strike_free hu (e ▸ hk)
          · obtain ⟨k0, p, h1, h2, rfl, _⟩ := back k o ho
            obtain ⟨k1, p', h1', h2', rfl, _⟩ := back k' o' ho'
            by_cases e1 : k0 = r <;> by_cases e2 : k1 = r
            · rw [e1, e2]
            · rw [e1, renKey_same, renKey_same, renKey_ne e2, renKey_ne h2'] at e; exact absurd e.symm e2
            · rw [e2, renKey_same, renKey_same, renKey_ne e1, renKey_ne h2] at e; exact absurd e e1
            · rw [renKey_ne e1, renKey_ne e2, renKey_ne h2, renKey_ne h2'] at e; rw [renKey_ne e1, renKey_ne e2, e]
          · obtain ⟨k0, p, h1, h2, rfl, rfl⟩ := back k o ho
            have e0 : renKey q r (renKey r q k0) = k0 := by
              by_cases e1 : k0 = r
              · rw [e1, renKey_same, renKey_same]
              · rw [renKey_ne e1, renKey_ne h2]
            rw [e0]
            exact ⟨key k0 h2, p, h1, fun bs hbs => hbs.ren rfl rfl rfl (key k0 h2) (fun k hk => key k fun e => Ob.strike_free h1 (e ▸ hk)) (fun _ _ _ h => h), Ob.map_isBld _ p, Ob.map_isByte _ X.E p⟩
  · exact ⟨μ, ⟨hr, Keep.refl μ⟩, h⟩

theorem Sim.newNil {X : Cx} {n : Nat} {I : Mem} {μ : Locs} {st : St} {a : Act} {w : World} (h : Sim X n I μ st a w) (q : Nat) (e : TypeId) (he : Nat.beq e X.E.tb = false) : Sim X n I (upd μ q (.row (.slice none 0 0) (X.E.sz e))) (newNil q e st) a w := by
  refine h.newRow q (h.strike q (ν := μ) fun _ _ => rfl).h.choose_spec e [] _ [] (World.ownsRow_nil w X.B e (X.E.sz e)) (fun i hi => by simp at hi) (fun b hb => by simp [Value.ownBlock] at hb) ?_
  simp [okNew, Ob.isBld, Ob.isByte, he]
theorem RowsOk.nil {μ : Locs} (h : RowsOk μ) (q c : Nat) : RowsOk (Dip.upd μ q (.row (.slice none 0 0) c)) := h.upd q _ fun v c' e => by injection e with e1 _; subst e1; exact ⟨_, _, _, rfl⟩
theorem Keep.big (μ : Locs) {q : Nat} (l : Loc) (hq : 2000 ≤ q) : Keep μ (Dip.upd μ q l) := fun k l' h1 h2 h3 => ⟨l', (upd_ne μ _ (by omega)).trans h3, l'.later_refl⟩
theorem Sim.putT {X : Cx} {n : Nat} {I : Mem} {μ : Locs} {st : St} {a : Act} {w : World} (h : Sim X n I μ st a w) (i : Nat) {v : GV} (hv : RepG I μ v (a.tmps.getD i undef)) : Sim X n I μ (st.put (some i) v) a w := by
  refine ⟨h.size, h.defers, fun j u hu => ?_, h.h, h.im, h.bw, h.fr, h.cx, h.base⟩
  simp only [St.put, look_cons] at hu
  by_cases e : j = i
  · rw [if_pos e] at hu
    injection hu with hu
    rw [e, ← hu]
    exact hv
  · rw [if_neg e] at hu
    exact h.t j u hu

/-- One reference in the place of another one. -/
theorem RepO.setRef {X : Cx} {I : Mem} {μ : Locs} {w : World} {cs : List CV} {vs : List Value} {bs : List Nat} (h : RepO X I μ w cs vs bs) {j : Nat} {u v : CV} (hu : cs[j]? = some u) (ho : u.isOwn = false) (hv : RepC I μ v (vs.getD j undef)) : RepO X I μ w (cs.set j v) vs bs := by
  obtain ⟨h1, bss, h2, h3, h4⟩ := h
  refine ⟨by rw [List.length_set]; exact h1, bss, h2, h3, fun i x hx => ?_⟩
  rw [List.getElem?_set] at hx
  by_cases e : j = i
  · subst e
    have hlt : j < cs.length := (List.getElem?_eq_some_iff.1 hu).1
    rw [if_pos rfl, if_pos hlt] at hx
    injection hx with hx
    subst hx
    obtain ⟨k1, k2⟩ := h4 j u hu
    rw [((CellO.ref ho).1 k1).2]
    exact ⟨CellO.of hv, k2⟩
  · rw [if_neg e] at hx
    exact h4 i x hx
theorem Sim.own {X : Cx} {n : Nat} {I : Mem} {μ : Locs} {st : St} {a : Act} {w : World} (hr : RowsOk μ) (h : Sim X n I μ st a w) (o : Own) : ∃ ν, (RowsOk ν ∧ Keep μ ν) ∧ Sim X n I ν (st.own X.E o) a w := by
  have same : ∃ ν, (RowsOk ν ∧ Keep μ ν) ∧ Sim X n I ν st a w := ⟨μ, ⟨hr, Keep.refl μ⟩, h⟩
  cases o with
  | slot i q e =>
    simp only [St.own]
    split
    · exact h.move hr _ _
    · rename_i c hg
      cases hc : Nat.beq e X.E.tb || !Nat.ble 2000 q
      · simp only [Bool.or_eq_false_iff, Bool.not_eq_false', Nat.ble_eq] at hc
        refine ⟨_, ⟨hr.nil q _, Keep.big μ _ hc.2⟩, (h.newNil q e hc.1).putT i ?_⟩
        have h1 := h.get i
        rw [hg] at h1
        have h2 : a.tmps.getD i undef = .slice none 0 0 := h1
        rw [h2]
        exact ⟨_, upd_same ..⟩
      · exact same
    · exact same
  | cell b j q e =>
    simp only [St.own]
    split
    · rename_i cs hb
      split
      · exact h.move hr _ _
      · rename_i c hg
        cases hc : Nat.beq e X.E.tb || (!Nat.ble 2000 q || Nat.beq b q)
        · simp only [cond_false]
          simp only [Bool.or_eq_false_iff, Bool.not_eq_false', Nat.ble_eq] at hc
          obtain ⟨hc1, hc2, hc3⟩ := hc
          have hbq : b ≠ q := by intro e; subst e; rw [nbeq] at hc3; simp at hc3
          have hN := h.newNil q e hc1
          have hlk : look (Dip.newNil q e st).h b = some (.box (cs.map (CV.strike q))) := by
            simp only [Dip.newNil, newOb, look_cons, if_neg hbq, look_strike, hb, Option.map_some, Ob.map]
          rw [hlk]
          refine ⟨_, ⟨hr.nil q _, Keep.big μ _ hc2⟩, hN.told (fun i v hv => hN.t i v hv) id (fun _ _ _ _ _ _ e => e) (fun k o ho => ⟨rfl, ?_⟩)⟩
          simp only [Dip.setOb, look_cons] at ho
          by_cases e1 : k = b
          · rw [if_pos e1] at ho
            injection ho with ho
            subst e1
            refine ⟨_, hlk, fun bs hbs => ?_, by rw [← ho]; rfl, by rw [← ho]; rfl⟩
            rw [← ho]
            obtain ⟨b', arr, T, is, k0, k1, k2, k3, k4, k5⟩ := hbs
            refine ⟨b', arr, T, is, k0, k1, k2, k3, k4, ?_⟩
            have hj : (cs.map (CV.strike q))[j]? = some (.nils c) := by simp [List.getElem?_map, hg, CV.strike]
            refine k5.setRef hj rfl ?_
            have k6 := k5.2.choose_spec.2.2 j (.nils c) hj
            have k7 : arr.toList.getD j undef = .slice none 0 0 := k6.1.1
            rw [k7]
            exact ⟨_, upd_same ..⟩
          · rw [if_neg e1, look_drop, if_neg e1] at ho
            exact ⟨o, ho, fun _ h => h, rfl, rfl⟩
        · exact same
      · exact same
    · exact same
theorem Sim.ownAll {X : Cx} {n : Nat} {I : Mem} {a : Act} {w : World} : ∀ (l : List Own) {μ : Locs} {st : St}, RowsOk μ → Sim X n I μ st a w → ∃ ν, (RowsOk ν ∧ Keep μ ν) ∧ Sim X n I ν (st.ownAll X.E l) a w
  | [], μ, st, hr, h => ⟨μ, ⟨hr, Keep.refl μ⟩, h⟩
  | o :: l, μ, st, hr, h => by
    obtain ⟨ν, ⟨h1, h2⟩, h3⟩ := h.own hr o
    obtain ⟨κ, ⟨k1, k2⟩, k3⟩ := Sim.ownAll l h1 h3
    exact ⟨κ, ⟨k1, h2.trans k2⟩, k3⟩
end Go.Dip
end

/- An ideal semantics of the model's code, part 31: shapes of states: what a loop or a second part is told. -/
section
set_option linter.unusedVariables false
set_option linter.unusedSimpArgs false
namespace Go.Dip

/-- What is told of a cell. -/
inductive SK where
  | int (k : IntKind)
  | bool
  | str
  | pv
  | sl (c : Nat)
  | fix (v : CV)
/-- .. of an object. -/
inductive OK where
  | box (cs : List SK)
  | row (e : TypeId)
  | bld
structure Shape where
  t : List (Nat × SK)
  h : List (Nat × OK)
  own : List Own := []
def listEq : List Nat → List Nat → Bool
  | [], [] => true
  | x :: l, y :: m => Nat.beq x y && listEq l m
  | _, _ => false
def sameC : CV → CV → Bool
  | .nils c, .nils d => Nat.beq c d
  | .orow r, .orow q => Nat.beq r q
  | .ptr r o, .ptr q p => Nat.beq r q && Nat.beq o p
  | .fn f rs, .fn g qs => Nat.beq f g && listEq rs qs
  | .glob g, .glob h => Nat.beq g h
  | _, _ => false
def fitC : SK → CV → Bool
  | .int k, .p x => isInt k x
  | .bool, .p x => isBool x
  | .str, .p x => isStr x
  | .pv, v => v.pure?.isSome
  | .sl c, v => match v.pure? with
    | some x => isSl c x
    | none => false
  | .fix u, v => sameC u v
  | _, _ => false
def pickC : SK → CV → PV
  | .pv, v => v.pure?.getD .any
  | .sl _, v => v.pure?.getD .any
  | .fix _, _ => .any
  | _, .p x => x
  | _, _ => .any
def fitG : SK → GV → Bool
  | k, .c v => fitC k v
  | .pv, g => g.pure?.isSome
  | _, _ => false
def pickG : SK → GV → PV
  | k, .c v => pickC k v
  | .pv, g => g.pure?.getD .any
  | _, _ => .any
def buildC : SK → PV → CV
  | .int k, x => .p (.int k (intOf x))
  | .bool, x => .p (.bool (boolOf x))
  | .str, x => .p (.str (strOf x))
  | .pv, x => .p x
  | .sl c, x => .p (.sl c (slOf x))
  | .fix v, _ => v
def fitCs : List SK → List CV → Bool
  | [], [] => true
  | k :: l, v :: m => fitC k v && fitCs l m
  | _, _ => false
def pickCs : List SK → List CV → List PV
  | k :: l, v :: m => pickC k v :: pickCs l m
  | _, _ => []
def fitO : OK → Ob → Bool
  | .box ks, .box cs => fitCs ks cs
  | .row e, .row e' _ => Nat.beq e e'
  | .bld, .bld _ => true
  | _, _ => false
def pickO : OK → Ob → List PV
  | .box ks, .box cs => pickCs ks cs
  | .row _, .row _ es => [.sl 0 es]
  | .bld, .bld s => [.str s]
  | _, _ => []
def OK.cnt : OK → Nat
  | .box ks => ks.length
  | _ => 1
def buildCs : List SK → Nat → List PV → List CV
  | [], _, _ => []
  | k :: l, j, vs => buildC k (vs.getD j .any) :: buildCs l (j + 1) vs
def buildO : OK → Nat → List PV → Ob
  | .box ks, j, vs => .box (buildCs ks j vs)
  | .row e, j, vs => .row e (slOf (vs.getD j .any))
  | .bld, j, vs => .bld (strOf (vs.getD j .any))
def fitT (st : St) : List (Nat × SK) → Bool
  | [] => true
  | x :: l => fitG x.2 (st.get x.1) && fitT st l
def fitH (h : List (Nat × Ob)) : List (Nat × OK) → Bool
  | [] => true
  | x :: l => (match look h x.1 with
    | some o => fitO x.2 o
    | none => false) && fitH h l
def pickT (st : St) : List (Nat × SK) → List PV
  | [] => []
  | x :: l => pickG x.2 (st.get x.1) :: pickT st l
def pickH (h : List (Nat × Ob)) : List (Nat × OK) → List PV
  | [] => []
  | x :: l => (match look h x.1 with
    | some o => pickO x.2 o
    | none => []) ++ pickH h l
def buildT : List (Nat × SK) → Nat → List PV → List (Nat × GV)
  | [], _, _ => []
  | x :: l, j, vs => (x.1, .c (buildC x.2 (vs.getD j .any))) :: buildT l (j + 1) vs
def buildH : List (Nat × OK) → Nat → List PV → List (Nat × Ob)
  | [], _, _ => []
  | x :: l, j, vs => (x.1, buildO x.2 j vs) :: buildH l (j + x.2.cnt) vs
def Shape.fits (sh : Shape) (st : St) : Bool := fitT st sh.t && fitH st.h sh.h
def Shape.pick (sh : Shape) (st : St) : List PV := pickT st sh.t ++ pickH st.h sh.h
def Shape.build (sh : Shape) (vs : List PV) : St := { t := buildT sh.t 0 vs, h := buildH sh.h sh.t.length vs }
def isPv : SK → Bool
  | .pv => true
  | .sl _ => true
  | _ => false
def cellRows : List SK → List CV → List Nat
  | k :: l, v :: m => (bif isPv k then v.rows else []) ++ cellRows l m
  | _, _ => []
/-- Rows that are told as what is only read. -/
def Shape.rows (sh : Shape) (st : St) : List Nat :=
  (sh.t.flatMap fun x => bif isPv x.2 then (st.get x.1).rows else []) ++ sh.h.flatMap fun x => match x.2, look st.h x.1 with
    | .box ks, some (.box cs) => cellRows ks cs
    | _, _ => []
def Shape.still (E : Env) (sh : Shape) (st : St) : St := (st.ownAll E sh.own).freezeAll E (sh.rows (st.ownAll E sh.own))
def wrap {R : Type} (E : Env) (sh : Shape) (J : List PV → (Exit → St → Option R) → Option R) : Wrap R := fun st K => bif sh.fits (sh.still E st) then J (sh.pick (sh.still E st)) K else none
/-- What is told at an exit, by its shape. -/
def Shape.mask (E : Env) (sh : Shape) (st : St) : St := bif sh.fits (sh.still E st) then sh.build (sh.pick (sh.still E st)) else st

theorem listEq_iff : ∀ {l m : List Nat}, listEq l m = true → l = m
  | [], [], _ => rfl
  | x :: l, y :: m, h => by
    simp only [listEq, Bool.and_eq_true, nbeq, decide_eq_true_eq] at h
    rw [h.1, listEq_iff h.2]
  | [], _ :: _, h => by simp [listEq] at h
  | _ :: _, [], h => by simp [listEq] at h
theorem sameC_iff {u v : CV} (h : sameC u v = true) : u = v := by
  cases u <;> cases v <;> simp only [sameC, Bool.and_eq_true, nbeq, decide_eq_true_eq] at h <;> first
    | (cases h; done)
    | (rw [h])
    | (rw [h.1, h.2])
    | (rw [h.1, listEq_iff h.2])
theorem fitC_rep {I : Mem} {μ : Locs} {k : SK} {v : CV} {x : Value} (h : fitC k v = true) (hx : RepC I μ v x) : RepC I μ (buildC k (pickC k v)) x := by
  cases k with
  | int k =>
    cases v with
    | p y =>
      have h' : isInt k y = true := h
      have e := isInt_inv h'
      show RepP I (.int k (intOf y)) x
      rw [← e]
      exact hx
    | _ => simp [fitC] at h
  | bool =>
    cases v with
    | p y =>
      cases y with
      | bool b => exact hx
      | _ => simp [fitC, isBool] at h
    | _ => simp [fitC] at h
  | str =>
    cases v with
    | p y =>
      cases y with
      | str b => exact hx
      | _ => simp [fitC, isStr] at h
    | _ => simp [fitC] at h
  | pv =>
    have h' : v.pure?.isSome = true := by cases v <;> exact h
    obtain ⟨y, hy⟩ := Option.isSome_iff_exists.1 h'
    have : pickC .pv v = y := by simp [pickC, hy]
    rw [this]
    exact pureC_rep hy hx
  | sl c =>
    have h' : (match v.pure? with | some x => isSl c x | none => false) = true := by cases v <;> exact h
    split at h'
    · rename_i y hy
      have : pickC (.sl c) v = y := by simp [pickC, hy]
      rw [this]
      have e := isSl_inv h'
      show RepP I (.sl c (slOf y)) x
      rw [← e]
      exact pureC_rep hy hx
    · cases h'
  | fix u =>
    have h' : sameC u v = true := by cases v <;> exact h
    have e := sameC_iff h'
    show RepC I μ u x
    rw [e]
    exact hx
theorem fitG_rep {I : Mem} {μ : Locs} {k : SK} {g : GV} {x : Value} (h : fitG k g = true) (hx : RepG I μ g x) : RepG I μ (.c (buildC k (pickG k g))) x := by
  cases g with
  | c v => exact fitC_rep h hx
  | agg cs =>
    cases k with
    | pv =>
      have h' : (GV.agg cs).pure?.isSome = true := h
      obtain ⟨y, hy⟩ := Option.isSome_iff_exists.1 h'
      have : pickG .pv (.agg cs) = y := by simp [pickG, hy]
      rw [this]
      exact pure_rep hy hx
    | _ => simp [fitG] at h
  | tup cs =>
    cases k with
    | pv => simp [fitG, GV.pure?] at h
    | _ => simp [fitG] at h
theorem fitCs_rep {I : Mem} {μ : Locs} : ∀ {ks : List SK} {cs : List CV} {vs : List Value} {pre post : List PV}, fitCs ks cs = true → RepCs I μ cs vs → RepCs I μ (buildCs ks pre.length (pre ++ (pickCs ks cs ++ post))) vs ∧ (pickCs ks cs).length = ks.length
  | [], [], vs, pre, post, _, h => ⟨h, rfl⟩
  | k :: ks, c :: cs, vs, pre, post, h, hr => by
    simp only [fitCs, Bool.and_eq_true] at h
    obtain ⟨hl, hrep⟩ := hr
    cases vs with
    | nil => simp at hl
    | cons v vs =>
      have h0 := hrep 0 c (by simp)
      have hr' : RepCs I μ cs vs := ⟨by simpa using hl, fun i u hu => by simpa using hrep (i + 1) u (by simpa using hu)⟩
      obtain ⟨i1, i2⟩ := fitCs_rep (pre := pre ++ [pickC k c]) (post := post) h.2 hr'
      have e1 : (pre ++ [pickC k c]).length = pre.length + 1 := by simp
      have e2 : pre ++ [pickC k c] ++ (pickCs ks cs ++ post) = pre ++ (pickCs (k :: ks) (c :: cs) ++ post) := by simp [pickCs]
      rw [e1, e2] at i1
      refine ⟨⟨?_, ?_⟩, by simp [pickCs, i2]⟩
      · simp only [buildCs, List.length_cons]
        rw [i1.1]
      · intro i u hu
        cases i with
        | zero =>
          simp only [buildCs, List.getElem?_cons_zero, Option.some.injEq] at hu
          subst hu
          have e3 : (pre ++ (pickCs (k :: ks) (c :: cs) ++ post)).getD pre.length .any = pickC k c := by simp [pickCs]
          rw [e3]
          simp only [List.getD_cons_zero] at h0 ⊢
          exact ⟨fitC_rep h.1 h0.1, h0.2⟩
        | succ i => simpa using i1.2 i u (by simpa [buildCs] using hu)
  | [], _ :: _, _, _, _, h, _ => by simp [fitCs] at h
  | _ :: _, [], _, _, _, h, _ => by simp [fitCs] at h
theorem pickO_cnt {k : OK} {o : Ob} (h : fitO k o = true) : (pickO k o).length = k.cnt := by
  cases k <;> cases o <;> first
    | (simp [fitO] at h; done)
    | rfl
    | skip
  rename_i ks cs
  simp only [pickO, OK.cnt]
  have : ∀ (ks : List SK) (cs : List CV), fitCs ks cs = true → (pickCs ks cs).length = ks.length := by
    intro ks
    induction ks with
    | nil => intro cs h; rfl
    | cons k ks ih =>
      intro cs h
      cases cs with
      | nil => simp [fitCs] at h
      | cons c cs =>
        simp only [fitCs, Bool.and_eq_true] at h
        simp [pickCs, ih cs h.2]
  exact this ks cs h
theorem fitCs_refs : ∀ {ks : List SK} {cs : List CV}, fitCs ks cs = true → ∀ v, v ∈ cs → v.isOwn = false
  | [], [], _, v, hv => by cases hv
  | k :: ks, c :: cs, h, v, hv => by
    simp only [fitCs, Bool.and_eq_true] at h
    rcases List.mem_cons.1 hv with rfl | hv
    · cases v with
      | own y => cases k with
        | fix u => cases u <;> simp [fitC, sameC] at h
        | _ => simp [fitC, CV.pure?] at h
      | _ => rfl
    · exact fitCs_refs h.2 v hv
  | [], _ :: _, h, _, _ => by simp [fitCs] at h
  | _ :: _, [], h, _, _ => by simp [fitCs] at h
theorem RepO.refs {X : Cx} {I : Mem} {μ : Locs} {w : World} {cs : List CV} {vs : List Value} {bs : List Nat} (h : RepO X I μ w cs vs bs) (hn : ∀ v, v ∈ cs → v.isOwn = false) : RepCs I μ cs vs ∧ bs = [] := by
  obtain ⟨h1, bss, h2, h3, h4⟩ := h
  have hb : ∀ i, i < bss.length → bss.getD i [] = [] := by
    intro i hi
    have hc : i < cs.length := by omega
    have := (h4 i cs[i] (by simp [hc])).1
    exact ((CellO.ref (hn _ (List.getElem_mem hc))).1 this).2
  refine ⟨⟨h1, fun i v hv => ⟨((CellO.ref (hn v (List.mem_of_getElem? hv))).1 (h4 i v hv).1).1, (h4 i v hv).2⟩⟩, ?_⟩
  rw [h3]
  apply List.eq_nil_iff_forall_not_mem.2
  intro x hx
  obtain ⟨l, hl, hxl⟩ := List.mem_flatten.1 hx
  obtain ⟨i, hi, rfl⟩ := List.mem_iff_getElem.1 hl
  have := hb i hi
  simp only [List.getD_eq_getElem?_getD, List.getElem?_eq_getElem hi, Option.getD_some] at this
  rw [this] at hxl
  cases hxl
theorem fitO_ok {X : Cx} {I : Mem} {μ : Locs} {w : World} {r : Nat} {k : OK} {o : Ob} {bs : List Nat} {pre post : List PV} (h : fitO k o = true) (ho : ObB X I μ w r o bs) : ObB X I μ w r (buildO k pre.length (pre ++ (pickO k o ++ post))) bs ∧ (buildO k pre.length (pre ++ (pickO k o ++ post))).isBld = o.isBld ∧
    (buildO k pre.length (pre ++ (pickO k o ++ post))).isByte X.E = o.isByte X.E := by
  cases k with
  | box ks =>
    cases o with
    | box cs =>
      obtain ⟨b, arr, T, is, h0, h1, h2, h3, h4, h5⟩ := ho
      have h' : fitCs ks cs = true := h
      obtain ⟨h6, h7⟩ := h5.refs (fitCs_refs h')
      subst h7
      exact ⟨⟨b, arr, T, [], h0, h1, h2, h3, h4, RepO.of (fitCs_rep h' h6).1⟩, rfl, rfl⟩
    | _ => simp [fitO] at h
  | row e =>
    cases o with
    | row e' es =>
      have e1 : e = e' := by simpa [fitO] using h
      subst e1
      have : buildO (.row e) pre.length (pre ++ (pickO (.row e) (.row e es) ++ post)) = .row e es := by simp [buildO, pickO, slOf]
      rw [this]
      exact ⟨ho, rfl, rfl⟩
    | _ => simp [fitO] at h
  | bld =>
    cases o with
    | bld s =>
      have : buildO .bld pre.length (pre ++ (pickO .bld (.bld s) ++ post)) = .bld s := by simp [buildO, pickO, strOf]
      rw [this]
      exact ⟨ho, rfl, rfl⟩
    | _ => simp [fitO] at h
theorem fitT_look {st : St} {i : Nat} {v : GV} : ∀ {l : List (Nat × SK)} {pre post : List PV}, fitT st l = true → look (buildT l pre.length (pre ++ (pickT st l ++ post))) i = some v → ∃ k, fitG k (st.get i) = true ∧ v = .c (buildC k (pickG k (st.get i)))
  | [], pre, post, _, h => by simp [buildT, look] at h
  | x :: l, pre, post, hf, h => by
    simp only [fitT, Bool.and_eq_true] at hf
    simp only [buildT, look_cons] at h
    by_cases e : i = x.1
    · rw [if_pos e] at h
      injection h with h
      refine ⟨x.2, e ▸ hf.1, ?_⟩
      rw [← h, e]
      simp [pickT]
    · rw [if_neg e] at h
      have e1 : (pre ++ [pickG x.2 (st.get x.1)]).length = pre.length + 1 := by simp
      have e2 : pre ++ [pickG x.2 (st.get x.1)] ++ (pickT st l ++ post) = pre ++ (pickT st (x :: l) ++ post) := by simp [pickT]
      exact fitT_look (pre := pre ++ [pickG x.2 (st.get x.1)]) hf.2 (by rw [e1, e2]; exact h)
theorem fitH_look {X : Cx} {I : Mem} {μ : Locs} {w : World} {hp : List (Nat × Ob)} {β : Nat → List Nat} (hok : ∀ r o, look hp r = some o → ObB X I μ w r o (β r)) {r : Nat} {o : Ob} : ∀ {l : List (Nat × OK)} {pre post : List PV}, fitH hp l = true → look (buildH l pre.length (pre ++ (pickH hp l ++ post))) r = some o →
    ∃ p, look hp r = some p ∧ ObB X I μ w r o (β r) ∧ o.isBld = p.isBld ∧ o.isByte X.E = p.isByte X.E
  | [], pre, post, _, h => by simp [buildH, look] at h
  | x :: l, pre, post, hf, h => by
    simp only [fitH, Bool.and_eq_true] at hf
    obtain ⟨hf1, hf2⟩ := hf
    split at hf1
    · rename_i p hp'
      simp only [buildH, look_cons] at h
      have hpk : pickH hp (x :: l) = pickO x.2 p ++ pickH hp l := by simp [pickH, hp']
      rw [hpk] at h
      by_cases e : r = x.1
      · rw [if_pos e] at h
        injection h with h
        subst e
        obtain ⟨k1, k2, k3⟩ := fitO_ok (pre := pre) (post := pickH hp l ++ post) hf1 (hok _ p hp')
        have e2 : pre ++ (pickO x.2 p ++ (pickH hp l ++ post)) = pre ++ (pickO x.2 p ++ pickH hp l ++ post) := by simp
        rw [e2] at k1 k2 k3
        rw [← h]
        exact ⟨p, hp', k1, k2, k3⟩
      · rw [if_neg e] at h
        have e1 : (pre ++ pickO x.2 p).length = pre.length + x.2.cnt := by simp [pickO_cnt hf1]
        have e2 : pre ++ pickO x.2 p ++ (pickH hp l ++ post) = pre ++ (pickO x.2 p ++ pickH hp l ++ post) := by simp
        exact fitH_look hok (pre := pre ++ pickO x.2 p) hf2 (by rw [e1, e2]; exact h)
    · cases hf1
theorem pickT_length (st : St) : ∀ l : List (Nat × SK), (pickT st l).length = l.length
  | [] => rfl
  | x :: l => by simp [pickT, pickT_length st l]

theorem HeapB.part {X : Cx} {I : Mem} {μ : Locs} {β : Nat → List Nat} {w : World} {h h' : List (Nat × Ob)} (hβ : HeapB X I μ β w h) (key : ∀ r o, look h' r = some o → ∃ p, look h r = some p ∧ ObB X I μ w r o (β r) ∧ o.isBld = p.isBld ∧ o.isByte X.E = p.isByte X.E) : HeapB X I μ β w h' := by
  refine ⟨?_, ?_, ?_, ?_, ?_, ?_⟩
  · intro r o ho; obtain ⟨p, _, k, _⟩ := key r o ho; exact k
  · intro r o ho; obtain ⟨p, k1, _⟩ := key r o ho; exact hβ.nodup r p k1
  · intro r r' o o' ho ho' hne
    obtain ⟨p, k1, _⟩ := key r o ho
    obtain ⟨p', k1', _⟩ := key r' o' ho'
    exact hβ.apart r r' p p' k1 k1' hne
  · intro r o ho; obtain ⟨p, k1, _⟩ := key r o ho; exact hβ.imm r p k1
  · intro r o ho; obtain ⟨p, k1, _⟩ := key r o ho; exact hβ.own r p k1
  · intro r r' o o' ho ho' hne hb
    obtain ⟨p, k1, _, k2, _⟩ := key r o ho
    obtain ⟨p', k1', _, k2', k3'⟩ := key r' o' ho'
    rw [k2] at hb
    rw [k2', k3']
    exact hβ.alone r r' p p' k1 k1' hne hb
theorem Shape.weak {E : Env} {sh : Shape} {st : St} (h : sh.fits (sh.still E st) = true) : Weak E st (sh.build (sh.pick (sh.still E st))) := by
  intro X n I μ0 a w hX hr hs
  subst hX
  obtain ⟨μ, hμ, hs⟩ := hs.ownAll sh.own hr
  obtain ⟨J, h1, h2⟩ := hs.freezeAll (sh.rows (st.ownAll X.E sh.own))
  refine ⟨J, μ, h1, hμ, ?_⟩
  have h2' : Sim X n J μ (sh.still X.E st) a w := h2
  generalize sh.still X.E st = st' at h h2'
  simp only [Shape.fits, Bool.and_eq_true] at h
  obtain ⟨β, hβ⟩ := h2'.h
  have key : ∀ r o, look (sh.build (sh.pick st')).h r = some o → ∃ p, look st'.h r = some p ∧ ObB X J μ w r o (β r) ∧ o.isBld = p.isBld ∧ o.isByte X.E = p.isByte X.E := by
    intro r o ho
    refine fitH_look hβ.ok (l := sh.h) (pre := pickT st' sh.t) (post := []) h.2 ?_
    rw [pickT_length, List.append_nil]
    exact ho
  refine ⟨h2'.size, h2'.defers, fun i v hv => ?_, ⟨β, hβ.part key⟩, h2'.im, h2'.bw, h2'.fr, h2'.cx, h2'.base⟩
  obtain ⟨k, k1, rfl⟩ := fitT_look (st := st') (l := sh.t) (pre := []) (post := pickH st'.h sh.h) h.1 (by simpa [Shape.build, Shape.pick] using hv)
  exact fitG_rep k1 (h2'.get i)
theorem Shape.mask_weak (E : Env) (sh : Shape) (st : St) : Weak E st (sh.mask E st) := by
  unfold Shape.mask
  cases h : sh.fits (sh.still E st)
  · exact Weak.refl E st
  · exact Shape.weak h

/-! Arguments. -/
inductive AK where
  | int (k : IntKind)
  | bool
  | str
  | pv
  | sl (c : Nat)
def fitA : AK → PV → Bool
  | .int k, x => isInt k x
  | .bool, x => isBool x
  | .str, x => isStr x
  | .pv, _ => true
  | .sl c, x => isSl c x
def canonA : AK → PV → PV
  | .int k, x => .int k (intOf x)
  | .bool, x => .bool (boolOf x)
  | .str, x => .str (strOf x)
  | .pv, x => x
  | .sl c, x => .sl c (slOf x)
def fitArgs : List AK → List PV → Bool
  | [], [] => true
  | k :: l, x :: m => fitA k x && fitArgs l m
  | _, _ => false
def canonArgs : List AK → Nat → List PV → List PV
  | [], _, _ => []
  | k :: l, j, vs => canonA k (vs.getD j .any) :: canonArgs l (j + 1) vs
theorem canonA_eq {k : AK} {x : PV} (h : fitA k x = true) : canonA k x = x := by
  cases k with
  | int k => exact (isInt_inv h).symm
  | bool => cases x <;> first | rfl | (simp [fitA, isBool] at h)
  | str => cases x <;> first | rfl | (simp [fitA, isStr] at h)
  | pv => rfl
  | sl c => exact (isSl_inv h).symm
theorem canonArgs_eq : ∀ {ks : List AK} {vs pre : List PV}, fitArgs ks vs = true → canonArgs ks pre.length (pre ++ vs) = vs
  | [], [], pre, _ => rfl
  | k :: ks, x :: vs, pre, h => by
    simp only [fitArgs, Bool.and_eq_true] at h
    have ih := canonArgs_eq (pre := pre ++ [x]) h.2
    have e1 : (pre ++ [x]).length = pre.length + 1 := by simp
    have e2 : pre ++ [x] ++ vs = pre ++ x :: vs := by simp
    rw [e1, e2] at ih
    simp only [canonArgs, ih]
    have e3 : (pre ++ x :: vs).getD pre.length .any = x := by simp
    rw [e3, canonA_eq h.1]
  | [], _ :: _, _, h => by simp [fitArgs] at h
  | _ :: _, [], _, h => by simp [fitArgs] at h
/-- A function of typed arguments. -/
def argG (ks : List AK) (F : List PV → Cps GV) : List PV → Cps GV := fun vs R K => bif fitArgs ks vs then F vs R K else none
theorem argG_ok {ks : List AK} {F : List PV → Cps GV} {X : List PV → Cps GV} (h : ∀ vs R K, F vs R K = X (canonArgs ks 0 vs) R K) : ∀ vs, (∀ R K, argG ks F vs R K = none) ∨ ∀ R K, argG ks F vs R K = X vs R K := by
  intro vs
  unfold argG
  cases hf : fitArgs ks vs
  · exact .inl fun R K => rfl
  · refine .inr fun R K => ?_
    simp only [cond_true]
    rw [h]
    have := canonArgs_eq (pre := []) hf
    simp only [List.length_nil, List.nil_append] at this
    rw [this]

/-- A second part, told by a shape. -/
theorem cut_ok {R : Type} {E : Env} {n : Nat} {ρ : FuncId → Option (Callee R)} {Λ : Nat → Option (Wrap R)} {b : Code} {sh : Shape} {M : Exit → St → St} {J : List PV → (Exit → St → Option R) → Option R} (hM : ∀ e st, Weak E st (M e st))
    (h : ∀ vs K, exec E n ρ Λ b (sh.build vs) (fun e st => K e (M e st)) = J vs K) : CutOk E n ρ Λ b (wrap E sh J) := by
  intro st K r hr
  unfold wrap at hr
  cases hf : sh.fits (sh.still E st)
  · rw [hf] at hr; exact absurd hr (by simp)
  · simp only [hf, cond_true] at hr
    exact ⟨_, M, Shape.weak hf, hM, by rw [h]; exact hr⟩
end Go.Dip
end

/- An ideal semantics of the model's code, part 32: callees and loops in chains; functions, level by level. -/
section
set_option linter.unusedVariables false
set_option linter.unusedSimpArgs false
namespace Go.Dip

abbrev PureG := List PV → Cps GV
abbrev HeapG := List GV → List (Nat × Ob) → (R : Type) → (GV → List (Nat × Ob) → Option R) → Option R
section
variable {P : Program} {E : Env} {tB : TypeId} {W0 : World}

structure PureOk (P : Program) (E : Env) (W0 : World) (g : FuncId) (G : PureG) : Prop where
  nat : ∀ vs, IsNat (G vs)
  ok : ∀ vs v, G vs GV some = some v → PureFn P E W0 g vs v
structure HeapGOk (P : Program) (E : Env) (tB : TypeId) (W0 : World) (g : FuncId) (G : HeapG) : Prop where
  nat : ∀ as H, IsNat2 (G as H)
  ok : ∀ as H v H', G as H (GV × List (Nat × Ob)) (fun v H => some (v, H)) = some (v, H') → HeapFn P E tB W0 g as H v H'

/-! Callees in a chain. -/
def rnil : RhoF := fun _ _ => none
def rp (g : FuncId) (G : PureG) (rest : RhoF) : RhoF := fun R x => bif Nat.beq x g then some (.pure fun vs => G vs R) else rest R x
def rh (g : FuncId) (G : HeapG) (rest : RhoF) : RhoF := fun R x => bif Nat.beq x g then some (.heap fun as H => G as H R) else rest R x
structure RhoAll (P : Program) (E : Env) (tB : TypeId) (W0 : World) (ρ : RhoF) : Prop where
  nat : RhoNat ρ
  ok : ∀ R, RhoOk P E tB W0 (ρ R)
theorem rnil_all : RhoAll P E tB W0 rnil := ⟨fun g => .inl fun R => rfl, fun R g c h => by cases h⟩
theorem PureOk.all {g : FuncId} {G : PureG} {rest : RhoF} (h : PureOk P E W0 g G) (hr : RhoAll P E tB W0 rest) : RhoAll P E tB W0 (rp g G rest) := by
  refine ⟨fun x => ?_, fun R x c hx => ?_⟩
  · by_cases e : x = g
    · refine .inr (.inl ⟨G, fun R => by simp [rp, e], h.nat⟩)
    · rcases hr.nat x with k | ⟨F, k1, k2⟩ | ⟨F, k1, k2⟩
      · exact .inl fun R => by simp [rp, nbeq, e, k R]
      · exact .inr (.inl ⟨F, fun R => by simp [rp, nbeq, e, k1 R], k2⟩)
      · exact .inr (.inr ⟨F, fun R => by simp [rp, nbeq, e, k1 R], k2⟩)
  · simp only [rp, nbeq] at hx
    by_cases e : x = g
    · simp only [e, decide_true, cond_true, Option.some.injEq] at hx
      subst hx
      rw [e]
      intro vs K r hr'
      have hn := h.nat vs R K
      have hr' : G vs R K = some r := hr'
      rw [hr'] at hn
      obtain ⟨v, k1, k2⟩ := Option.bind_eq_some_iff.1 hn.symm
      exact ⟨v, k2, h.ok vs v k1⟩
    · simp only [e, decide_false, cond_false] at hx
      exact hr.ok R x c hx
theorem HeapGOk.all {g : FuncId} {G : HeapG} {rest : RhoF} (h : HeapGOk P E tB W0 g G) (hr : RhoAll P E tB W0 rest) : RhoAll P E tB W0 (rh g G rest) := by
  refine ⟨fun x => ?_, fun R x c hx => ?_⟩
  · by_cases e : x = g
    · refine .inr (.inr ⟨G, fun R => by simp [rh, e], h.nat⟩)
    · rcases hr.nat x with k | ⟨F, k1, k2⟩ | ⟨F, k1, k2⟩
      · exact .inl fun R => by simp [rh, nbeq, e, k R]
      · exact .inr (.inl ⟨F, fun R => by simp [rh, nbeq, e, k1 R], k2⟩)
      · exact .inr (.inr ⟨F, fun R => by simp [rh, nbeq, e, k1 R], k2⟩)
  · simp only [rh, nbeq] at hx
    by_cases e : x = g
    · simp only [e, decide_true, cond_true, Option.some.injEq] at hx
      subst hx
      rw [e]
      intro as H K r hr'
      have hn := h.nat as H R K
      have hr' : G as H R K = some r := hr'
      rw [hr'] at hn
      obtain ⟨p, k1, k2⟩ := Option.bind_eq_some_iff.1 hn.symm
      exact ⟨p.1, p.2, k2, h.ok as H p.1 p.2 k1⟩
    · simp only [e, decide_false, cond_false] at hx
      exact hr.ok R x c hx

/-! Loops and second parts of a function, in a chain. -/
/-- A loop: its number, the state at its head, the states at its exits (by the block's number; ret), what it does at each level. -/
structure LoopE where
  id : Nat
  sh : Shape
  mask : Exit → St → St
  L : Nat → List PV → (R : Type) → (Exit → St → Option R) → Option R
structure CutE where
  id : Nat
  sh : Shape
  mask : Exit → St → St
  J : Nat → List PV → (R : Type) → (Exit → St → Option R) → Option R
def LoopE.wrap (E : Env) (e : LoopE) (k : Nat) : (R : Type) → Wrap R := fun R => Dip.wrap E e.sh fun vs K => e.L k vs R K
def CutE.wrap (E : Env) (e : CutE) (k : Nat) : (R : Type) → Wrap R := fun R => Dip.wrap E e.sh fun vs K => e.J k vs R K
def lamC (E : Env) (k : Nat) : List CutE → LamF
  | [] => fun _ _ => none
  | e :: l => fun R i => bif Nat.beq i (2 * e.id + 1) then some (e.wrap E k R) else lamC E k l R i
def lam (E : Env) (k : Nat) (cs : List CutE) : List LoopE → LamF
  | [] => lamC E k cs
  | e :: l => fun R i => bif Nat.beq i (2 * e.id) then some (e.wrap E k R) else lam E k cs l R i
def loopAt (c : Code) (i : Nat) : Code := ((loops c).filter fun b => Nat.beq (fr b) i).headD .skip
def secondAt (c : Code) (i : Nat) : Code := ((seconds c).filter fun b => Nat.beq (fr b) i).headD .skip
def onlyLoop (c : Code) (i : Nat) : Bool := Nat.beq ((loops c).filter fun b => Nat.beq (fr b) i).length 1
def onlySecond (c : Code) (i : Nat) : Bool := Nat.beq ((seconds c).filter fun b => Nat.beq (fr b) i).length 1
theorem only_mem {l : List Code} {i : Nat} (h : Nat.beq (l.filter fun b => Nat.beq (fr b) i).length 1 = true) : ∀ b, b ∈ l → fr b = i → b = (l.filter fun b => Nat.beq (fr b) i).headD .skip := by
  intro b hb hi
  rw [nbeq, decide_eq_true_eq] at h
  obtain ⟨x, hx⟩ := List.length_eq_one_iff.1 h
  have : b ∈ l.filter fun b => Nat.beq (fr b) i := by
    rw [List.mem_filter]
    exact ⟨hb, by simp [hi]⟩
  rw [hx] at this ⊢
  simpa using this
theorem only_in {l : List Code} {i : Nat} (h : Nat.beq (l.filter fun b => Nat.beq (fr b) i).length 1 = true) : (l.filter fun b => Nat.beq (fr b) i).headD .skip ∈ l := by
  rw [nbeq, decide_eq_true_eq] at h
  obtain ⟨x, hx⟩ := List.length_eq_one_iff.1 h
  have : x ∈ l.filter fun b => Nat.beq (fr b) i := by rw [hx]; simp
  rw [hx]
  exact (List.mem_filter.1 this).1

theorem loops_sub : ∀ (c : Code) {c' : Code}, c' ∈ loops c → (∀ b, b ∈ loops c' → b ∈ loops c) ∧ ∀ b, b ∈ seconds c' → b ∈ seconds c := by
  intro c
  induction c with
  | seq x y ihx ihy =>
    intro c' h
    simp only [loops, List.mem_append] at h
    rcases h with h | h
    · obtain ⟨h1, h2⟩ := ihx h
      exact ⟨fun b hb => by simp [loops, h1 b hb], fun b hb => by simp [seconds, h2 b hb]⟩
    · obtain ⟨h1, h2⟩ := ihy h
      exact ⟨fun b hb => by simp [loops, h1 b hb], fun b hb => by simp [seconds, h2 b hb]⟩
  | cond o x y ihx ihy =>
    intro c' h
    simp only [loops, List.mem_append] at h
    rcases h with h | h
    · obtain ⟨h1, h2⟩ := ihx h
      exact ⟨fun b hb => by simp [loops, h1 b hb], fun b hb => by simp [seconds, h2 b hb]⟩
    · obtain ⟨h1, h2⟩ := ihy h
      exact ⟨fun b hb => by simp [loops, h1 b hb], fun b hb => by simp [seconds, h2 b hb]⟩
  | block id x ih =>
    intro c' h
    obtain ⟨h1, h2⟩ := ih (by simpa [loops] using h)
    exact ⟨fun b hb => by simpa [loops] using h1 b hb, fun b hb => by simpa [seconds] using h2 b hb⟩
  | scope x ih =>
    intro c' h
    obtain ⟨h1, h2⟩ := ih (by simpa [loops] using h)
    exact ⟨fun b hb => by simpa [loops] using h1 b hb, fun b hb => by simpa [seconds] using h2 b hb⟩
  | loop x ih =>
    intro c' h
    simp only [loops, List.mem_cons] at h
    rcases h with rfl | h
    · exact ⟨fun b hb => by simp [loops, hb], fun b hb => by simpa [seconds] using hb⟩
    · obtain ⟨h1, h2⟩ := ih h
      exact ⟨fun b hb => by simp [loops, h1 b hb], fun b hb => by simpa [seconds] using h2 b hb⟩
  | _ => intro c' h; simp [loops] at h

theorem lamC_some {k : Nat} : ∀ {cs : List CutE} {R : Type} {i : Nat} {W : Wrap R}, lamC E k cs R i = some W → ∃ e, e ∈ cs ∧ i = 2 * e.id + 1 ∧ W = e.wrap E k R
  | [], R, i, W, h => by cases h
  | e :: l, R, i, W, h => by
    simp only [lamC, nbeq] at h
    by_cases hi : i = 2 * e.id + 1
    · simp only [hi, decide_true, cond_true, Option.some.injEq] at h
      exact ⟨e, by simp, hi, h.symm⟩
    · simp only [hi, decide_false, cond_false] at h
      obtain ⟨e', h1, h2⟩ := lamC_some h
      exact ⟨e', by simp [h1], h2⟩
theorem lam_some {k : Nat} {cs : List CutE} : ∀ {ls : List LoopE} {R : Type} {i : Nat} {W : Wrap R}, lam E k cs ls R i = some W → (∃ e, e ∈ ls ∧ i = 2 * e.id ∧ W = e.wrap E k R) ∨ ∃ e, e ∈ cs ∧ i = 2 * e.id + 1 ∧ W = e.wrap E k R
  | [], R, i, W, h => .inr (lamC_some h)
  | e :: l, R, i, W, h => by
    simp only [lam, nbeq] at h
    by_cases hi : i = 2 * e.id
    · simp only [hi, decide_true, cond_true, Option.some.injEq] at h
      exact .inl ⟨e, by simp, hi, h.symm⟩
    · simp only [hi, decide_false, cond_false] at h
      rcases lam_some h with ⟨e', h1, h2⟩ | h'
      · exact .inl ⟨e', by simp [h1], h2⟩
      · exact .inr h'

/-- What a function's loops and second parts owe. -/
structure Tower (E : Env) (n : Nat) (c : Code) (ρ : Nat → RhoF) (ls : List LoopE) (cs : List CutE) : Prop where
  only : ∀ e, e ∈ ls → onlyLoop c e.id = true
  onlyC : ∀ e, e ∈ cs → onlySecond c e.id = true
  zero : ∀ e, e ∈ ls → ∀ vs R K, e.L 0 vs R K = none
  mask : ∀ e, e ∈ ls → ∀ x st, Weak E st (e.mask x st)
  loop : ∀ e, e ∈ ls → ∀ k vs R (K : Exit → St → Option R), e.L (k + 1) vs R K = exec E n (ρ k R) (lam E k cs ls R) (loopAt c e.id) (e.sh.build vs) fun x st => match x with
    | .normal => e.wrap E k R st K
    | x => K x (e.mask x st)
  maskC : ∀ e, e ∈ cs → ∀ x st, Weak E st (e.mask x st)
  cut : ∀ e, e ∈ cs → ∀ k vs R (K : Exit → St → Option R), e.J k vs R K = exec E n (ρ k R) (lam E k cs ls R) (secondAt c e.id) (e.sh.build vs) fun x st => K x (e.mask x st)
theorem wrap_nat {sh : Shape} {L : List PV → (R : Type) → (Exit → St → Option R) → Option R} (h : ∀ vs, IsNat2 (L vs)) (st : St) : IsNat2 (fun R K => wrap E sh (fun vs K => L vs R K) st K) := IsNat2.bif _ (h _) .none
theorem lamC_key (k : Nat) : ∀ (cs : List CutE) (i : Nat), (∀ R, lamC E k cs R i = none) ∨ ∃ e, e ∈ cs ∧ i = 2 * e.id + 1 ∧ ∀ R, lamC E k cs R i = some (e.wrap E k R)
  | [], i => .inl fun R => rfl
  | e :: l, i => by
    by_cases hi : i = 2 * e.id + 1
    · exact .inr ⟨e, by simp, hi, fun R => by simp [lamC, nbeq, hi]⟩
    · rcases lamC_key k l i with h | ⟨e', h1, h2, h3⟩
      · exact .inl fun R => by simp [lamC, nbeq, hi, h R]
      · exact .inr ⟨e', by simp [h1], h2, fun R => by simp only [lamC, nbeq, hi, decide_false, cond_false]; exact h3 R⟩
theorem lam_key (k : Nat) (cs : List CutE) : ∀ (ls : List LoopE) (i : Nat), (∀ R, lam E k cs ls R i = none) ∨ (∃ e, e ∈ ls ∧ i = 2 * e.id ∧ ∀ R, lam E k cs ls R i = some (e.wrap E k R)) ∨ ∃ e, e ∈ cs ∧ i = 2 * e.id + 1 ∧ ∀ R, lam E k cs ls R i = some (e.wrap E k R)
  | [], i => by
    rcases lamC_key (E := E) k cs i with h | h
    · exact .inl h
    · exact .inr (.inr h)
  | e :: l, i => by
    by_cases hi : i = 2 * e.id
    · exact .inr (.inl ⟨e, by simp, hi, fun R => by simp [lam, nbeq, hi]⟩)
    · rcases lam_key k cs l i with h | ⟨e', h1, h2, h3⟩ | ⟨e', h1, h2, h3⟩
      · exact .inl fun R => by simp [lam, nbeq, hi, h R]
      · exact .inr (.inl ⟨e', by simp [h1], h2, fun R => by simp only [lam, nbeq, hi, decide_false, cond_false]; exact h3 R⟩)
      · exact .inr (.inr ⟨e', h1, h2, fun R => by simp only [lam, nbeq, hi, decide_false, cond_false]; exact h3 R⟩)

section
variable {n : Nat} {c : Code} {ρ : Nat → RhoF} {ls : List LoopE} {cs : List CutE}
theorem Tower.cutsNat (T : Tower E n c ρ ls cs) {k : Nat} (hρ : RhoNat (ρ k)) (hl : ∀ c', c' ∈ loops c → KeyNat (lam E k cs ls) (2 * fr c')) : ∀ c0 : Code, (∀ b, b ∈ loops c0 → b ∈ loops c) → (∀ b, b ∈ seconds c0 → b ∈ seconds c) → ∀ b, b ∈ seconds c0 → KeyNat (lam E k cs ls) (2 * fr b + 1) := by
  intro c0
  induction c0 with
  | seq x y ihx ihy =>
    intro h1 h2 b hb
    have ix := ihx (fun b hb => h1 b (by simp [loops, hb])) (fun b hb => h2 b (by simp [seconds, hb]))
    have iy := ihy (fun b hb => h1 b (by simp [loops, hb])) (fun b hb => h2 b (by simp [seconds, hb]))
    simp only [seconds, List.mem_cons, List.mem_append] at hb
    rcases hb with rfl | hb | hb
    · rcases lam_key (E := E) k cs ls (2 * fr b + 1) with h | ⟨e, e1, e2, _⟩ | ⟨e, e1, e2, e3⟩
      · exact .inl h
      · omega
      · refine .inr ⟨e.wrap E k, e3, fun st => wrap_nat (fun vs => ?_) st⟩
        have hid : fr b = e.id := by omega
        have hbe : b = secondAt c e.id := only_mem (T.onlyC e e1) b (h2 b (by simp [seconds])) hid
        intro R K
        rw [T.cut e e1, T.cut e e1, ← hbe]
        exact ((exec_nat E n hρ b ⟨fun c' hc => hl c' (h1 c' (by simp [loops, hc])), iy⟩ (e.sh.build vs)).comp2 fun x st => .ret _ _) R K
    · exact ix b hb
    · exact iy b hb
  | cond o x y ihx ihy =>
    intro h1 h2 b hb
    have ix := ihx (fun b hb => h1 b (by simp [loops, hb])) (fun b hb => h2 b (by simp [seconds, hb]))
    have iy := ihy (fun b hb => h1 b (by simp [loops, hb])) (fun b hb => h2 b (by simp [seconds, hb]))
    simp only [seconds, List.mem_append] at hb
    rcases hb with hb | hb
    · exact ix b hb
    · exact iy b hb
  | block id x ih =>
    intro h1 h2 b hb
    exact ih (fun b hb => h1 b (by simpa [loops] using hb)) (fun b hb => h2 b (by simpa [seconds] using hb)) b (by simpa [seconds] using hb)
  | scope x ih =>
    intro h1 h2 b hb
    exact ih (fun b hb => h1 b (by simpa [loops] using hb)) (fun b hb => h2 b (by simpa [seconds] using hb)) b (by simpa [seconds] using hb)
  | loop x ih =>
    intro h1 h2 b hb
    exact ih (fun b hb => h1 b (by simp [loops, hb])) (fun b hb => h2 b (by simpa [seconds] using hb)) b (by simpa [seconds] using hb)
  | _ => intro h1 h2 b hb; simp [seconds] at hb
theorem Tower.keys (T : Tower E n c ρ ls cs) {k : Nat} (h : ∀ e, e ∈ ls → ∀ st, IsNat2 (fun R K => e.wrap E k R st K)) : ∀ c', c' ∈ loops c → KeyNat (lam E k cs ls) (2 * fr c') := by
  intro c' hc
  rcases lam_key (E := E) k cs ls (2 * fr c') with h' | ⟨e, e1, e2, e3⟩ | ⟨e, e1, e2, e3⟩
  · exact .inl h'
  · exact .inr ⟨e.wrap E k, e3, h e e1⟩
  · omega
theorem Tower.loopsNat (T : Tower E n c ρ ls cs) : ∀ k, (∀ j, j < k → RhoNat (ρ j)) → ∀ e, e ∈ ls → ∀ st, IsNat2 (fun R K => e.wrap E k R st K) := by
  intro k
  induction k with
  | zero => intro _ e he st; exact wrap_nat (fun vs R K => by rw [T.zero e he, T.zero e he]; rfl) st
  | succ k ih =>
    intro hρ e he st
    have hself := ih fun j hj => hρ j (by omega)
    have hl := T.keys hself
    have hcut := T.cutsNat (hρ k (by omega)) hl c (fun _ h => h) (fun _ h => h)
    refine wrap_nat (fun vs R K => ?_) st
    obtain ⟨s1, s2⟩ := loops_sub c (only_in (T.only e he))
    have hN : LamNat (lam E k cs ls) (loopAt c e.id) := ⟨fun b hb => hl b (s1 b hb), fun b hb => hcut b (s2 b hb)⟩
    rw [T.loop e he, T.loop e he]
    refine ((exec_nat E n (hρ k (by omega)) (loopAt c e.id) hN (e.sh.build vs)).comp2 (h := fun x st R K => match x with | .normal => e.wrap E k R st K | x => K x (e.mask x st)) fun x st => ?_) R K
    cases x with
    | normal => exact hself e he st
    | _ => exact .ret _ _
theorem Tower.nat (T : Tower E n c ρ ls cs) (k : Nat) (hρ : ∀ j, j ≤ k → RhoNat (ρ j)) : LamNat (lam E k cs ls) c := by
  have hl := T.keys (T.loopsNat k fun j hj => hρ j (by omega))
  exact ⟨hl, T.cutsNat (hρ k (Nat.le_refl k)) hl c (fun _ h => h) (fun _ h => h)⟩

theorem Tower.cutsOk (T : Tower E n c ρ ls cs) (k : Nat) (R : Type) : ∀ b, b ∈ seconds c → ∀ J, lam E k cs ls R (2 * fr b + 1) = some J → CutOk E n (ρ k R) (lam E k cs ls R) b J := by
  intro b hb J hJ
  rcases lam_some hJ with ⟨e, e1, e2, e3⟩ | ⟨e, e1, e2, e3⟩
  · omega
  · have hbe : b = secondAt c e.id := only_mem (T.onlyC e e1) b hb (by omega)
    rw [e3]
    exact cut_ok (T.maskC e e1) fun vs K => by rw [T.cut e e1, hbe]
theorem Tower.loopsOk (hE : EnvOk P E tB) (T : Tower E n c ρ ls cs) (R : Type) : ∀ k, (∀ j, j < k → RhoOk P E tB W0 (ρ j R)) → ∀ c', c' ∈ loops c → ∀ L, lam E k cs ls R (2 * fr c') = some L → LoopOk P E tB W0 n c' L := by
  intro k
  induction k using Nat.strongRecOn with
  | _ k ih =>
    intro hρ c' hc L hL
    rcases lam_some hL with ⟨e, e1, e2, e3⟩ | ⟨e, e1, e2, e3⟩
    · have hce : c' = loopAt c e.id := only_mem (T.only e e1) c' hc (by omega)
      rw [e3]
      obtain ⟨s1, s2⟩ := loops_sub c hc
      refine loop_ok (X := fun k => e.wrap E k R) (ρ := fun k => ρ k R) (Λ := fun k => lam E k cs ls R) hE ?_ ?_ k ?_
      · intro st K
        show wrap E e.sh (fun vs K => e.L 0 vs R K) st K = none
        unfold wrap
        cases e.sh.fits (e.sh.still E st)
        · rfl
        · exact T.zero e e1 _ R K
      · intro j st K r h
        have h' : wrap E e.sh (fun vs K => e.L (j + 1) vs R K) st K = some r := h
        unfold wrap at h'
        cases hf : e.sh.fits (e.sh.still E st)
        · rw [hf] at h'; exact absurd h' (by simp)
        · simp only [hf, cond_true] at h'
          rw [T.loop e e1] at h'
          exact ⟨_, e.mask, Shape.weak hf, T.mask e e1, by rw [hce]; exact h'⟩
      · intro j hj
        exact ⟨hρ j hj, fun c2 hc2 L2 hL2 => ih j hj (fun i hi => hρ i (by omega)) c2 (s1 c2 hc2) L2 hL2, fun b hb J hJ => T.cutsOk j R b (s2 b hb) J hJ⟩
    · omega

/-- A function, at the next level. -/
theorem Tower.pure (hE : EnvOk P E tB) {f : FuncId} {fn : Func} (T : Tower E fn.ntmps c ρ ls cs) (hf : P.funcs[f]? = some fn) (hb : fn.body = some c) (hn : (fn.name == "runtime.NumGoroutine") = false) {k : Nat} (hρ : ∀ j, j ≤ k → RhoAll P E tB W0 (ρ j)) {G : PureG}
    (hG : ∀ vs, (∀ R K, G vs R K = none) ∨ ∀ R K, G vs R K = execPure E (ρ k R) (lam E k cs ls R) fn vs K) : PureOk P E W0 f G := by
  have hN := T.nat k fun j hj => (hρ j hj).nat
  refine ⟨fun vs => ?_, fun vs v h => ?_⟩
  · rcases hG vs with h | h
    · intro R K; rw [h, h]; rfl
    · intro R K
      rw [h, h]
      exact execPure_nat E (hρ k (Nat.le_refl k)).nat fn (fun c' hc => by rw [hb] at hc; injection hc with hc; rw [← hc]; exact hN) vs R K
  · rcases hG vs with h' | h'
    · rw [h'] at h; cases h
    · rw [h'] at h
      exact pureFn_of hE (hρ k (Nat.le_refl k)).nat hN (fun R => (hρ k (Nat.le_refl k)).ok R) hf hn hb (fun R => T.loopsOk hE R k fun j hj => (hρ j (by omega)).ok R) (fun R => T.cutsOk k R) h
theorem Tower.heap (hE : EnvOk P E tB) {f : FuncId} {fn : Func} (T : Tower E fn.ntmps c ρ ls cs) (hf : P.funcs[f]? = some fn) (hb : fn.body = some c) (hn : (fn.name == "runtime.NumGoroutine") = false) {k : Nat} (hρ : ∀ j, j ≤ k → RhoAll P E tB W0 (ρ j)) {G : HeapG}
    (hG : ∀ as H, (∀ R K, G as H R K = none) ∨ ∀ R K, G as H R K = execHeap E (ρ k R) (lam E k cs ls R) fn as H K) : HeapGOk P E tB W0 f G := by
  have hN := T.nat k fun j hj => (hρ j hj).nat
  refine ⟨fun as H => ?_, fun as H v H' h => ?_⟩
  · rcases hG as H with h | h
    · intro R K; rw [h, h]; rfl
    · intro R K
      rw [h, h]
      exact execHeap_nat E (hρ k (Nat.le_refl k)).nat fn (fun c' hc => by rw [hb] at hc; injection hc with hc; rw [← hc]; exact hN) as H R K
  · rcases hG as H with h' | h'
    · rw [h'] at h; cases h
    · rw [h'] at h
      exact heapFn_of hE (fun R => (hρ k (Nat.le_refl k)).ok R) hf hn hb (fun R => T.loopsOk hE R k fun j hj => (hρ j (by omega)).ok R) (fun R => T.cutsOk k R) h
end
end
end Go.Dip
end

/- An ideal semantics of the model's code, part 33: what a program of functions puts together. -/
section
set_option linter.unusedVariables false
set_option linter.unusedSimpArgs false
namespace Go.Dip

/-! States at exits. -/
def noSh : Shape := ⟨[], [], []⟩
def maskOf (E : Env) (xs : List (Nat × Shape)) (ret nrm : Shape) : Exit → St → St
  | .exit j, st => match look xs j with
    | some sh => sh.mask E st
    | none => st
  | .ret, st => ret.mask E st
  | .normal, st => nrm.mask E st
  | _, st => st
theorem maskOf_weak (E : Env) (xs : List (Nat × Shape)) (ret nrm : Shape) (x : Exit) (st : St) : Weak E st (maskOf E xs ret nrm x st) := by
  unfold maskOf
  split
  · split
    · exact @Shape.mask_weak E _ st
    · exact @Weak.refl E st
  · exact @Shape.mask_weak E _ st
  · exact @Shape.mask_weak E _ st
  · exact @Weak.refl E st

def AllL {α : Type 1} (p : α → Prop) (l : List α) : Prop := ∀ x, x ∈ l → p x
theorem AllL.nil {α : Type 1} {p : α → Prop} : AllL p [] := fun x h => by cases h
theorem AllL.cons {α : Type 1} {p : α → Prop} {x : α} {l : List α} (h : p x) (k : AllL p l) : AllL p (x :: l) := fun y hy => by
  rcases List.mem_cons.1 hy with rfl | hy
  · exact h
  · exact k y hy

/-! Objects that are handed, told by a shape. -/
def Shape.asOf (sh : Shape) (n : Nat) (vs : List PV) : List GV := (List.range n).map fun i => (look (buildT sh.t 0 vs) i).getD .any
def Shape.hOf (sh : Shape) (vs : List PV) : List (Nat × Ob) := buildH sh.h sh.t.length vs
def Shape.fitsH (sh : Shape) (n : Nat) (as : List GV) (H : List (Nat × Ob)) : Bool :=
  Nat.beq as.length n && (listEq (H.map fun x => x.1) (sh.h.map fun x => x.1) && (distinct (H.map fun x => x.1) && sh.fits ⟨args0 0 as, H⟩))
def argH (n : Nat) (sh : Shape) (F : List PV → (R : Type) → (GV → List (Nat × Ob) → Option R) → Option R) : HeapG := fun as H R K => bif sh.fitsH n as H then F (sh.pick ⟨args0 0 as, H⟩) R K else none

theorem args0_at : ∀ (l : List GV) (j i : Nat), look (args0 j l) (j + i) = l[i]?
  | [], j, i => by simp [args0, look]
  | v :: l, j, i => by
    simp only [args0, look_cons]
    cases i with
    | zero => simp
    | succ i =>
      rw [if_neg (by simp)]
      have := args0_at l (j + 1) i
      rw [show j + 1 + i = j + (i + 1) by omega] at this
      rw [this]
      simp
theorem buildH_keys : ∀ (l : List (Nat × OK)) (j : Nat) (vs : List PV), (buildH l j vs).map (fun x => x.1) = l.map fun x => x.1
  | [], _, _ => rfl
  | x :: l, j, vs => by simp [buildH, buildH_keys l]
theorem look_isSome {α : Type} : ∀ (l : List (Nat × α)) (i : Nat), (look l i).isSome = true ↔ i ∈ l.map fun x => x.1
  | [], i => by simp [look]
  | x :: l, i => by
    rw [look_cons]
    by_cases e : i = x.1
    · simp [e]
    · rw [if_neg e, look_isSome l i]; simp [e]
theorem look_distinct {α : Type} : ∀ {l : List (Nat × α)} {x : Nat × α}, distinct (l.map fun x => x.1) = true → x ∈ l → look l x.1 = some x.2
  | [], x, _, h => by cases h
  | y :: l, x, hd, h => by
    rw [List.map_cons] at hd
    obtain ⟨h1, h2⟩ := distinct_cons hd
    rw [look_cons]
    rcases List.mem_cons.1 h with rfl | h
    · simp
    · have : x.1 ≠ y.1 := fun e => h1 (e ▸ List.mem_map_of_mem h)
      rw [if_neg this]
      exact look_distinct h2 h

section
variable {P : Program} {E : Env} {tB : TypeId} {W0 : World}
theorem HeapFn.told {f : FuncId} {n : Nat} {sh : Shape} {as : List GV} {H H' : List (Nat × Ob)} {v : GV} (hf : sh.fitsH n as H = true)
    (h : HeapFn P E tB W0 f (sh.asOf n (sh.pick ⟨args0 0 as, H⟩)) (sh.hOf (sh.pick ⟨args0 0 as, H⟩)) v H') : HeapFn P E tB W0 f as H v H' := by
  simp only [Shape.fitsH, Bool.and_eq_true, nbeq, decide_eq_true_eq] at hf
  obtain ⟨hn, hk, hd, hft⟩ := hf
  have hk := listEq_iff hk
  simp only [Shape.fits, Bool.and_eq_true] at hft
  generalize hst : (⟨args0 0 as, H⟩ : St) = st at hft h
  have hH : st.h = H := by rw [← hst]
  have ht : ∀ i, i < as.length → st.get i = as.getD i .any := by
    intro i hi
    rw [← hst]
    have := args0_at as 0 i
    rw [Nat.zero_add] at this
    show (look (args0 0 as) i).getD .any = _
    rw [this]
    simp
  have hkeys : (sh.hOf (sh.pick st)).map (fun x => x.1) = H.map fun x => x.1 := by rw [Shape.hOf, buildH_keys, hk]
  have key : ∀ {X : Cx} {I : Mem} {μ : Locs} {β : Nat → List Nat} {w : World}, HeapB X I μ β w H → ∀ r o, look (sh.hOf (sh.pick st)) r = some o → ∃ p, look H r = some p ∧ ObB X I μ w r o (β r) ∧ o.isBld = p.isBld ∧ o.isByte X.E = p.isByte X.E := by
    intro X I μ β w hh r o ho
    have := fitH_look (X := X) (I := I) (μ := μ) (w := w) (hp := H) hh.ok (r := r) (o := o) (l := sh.h) (pre := pickT st sh.t) (post := []) (by first | exact hft.2 | (rw [← hH]; exact hft.2)) (by
      rw [pickT_length, List.append_nil]
      have e : pickT st sh.t ++ pickH H sh.h = sh.pick st := by rw [Shape.pick, hH]
      rw [e]
      exact ho)
    exact this
  have hblocks : ∀ β : Nat → List Nat, blocksOf β (sh.hOf (sh.pick st)) = blocksOf β H := by
    intro β
    funext b
    refine propext ⟨?_, ?_⟩
    · rintro ⟨r, o, h1, h2⟩
      have : (look H r).isSome = true := by
        rw [look_isSome, ← hkeys, ← look_isSome, h1]; rfl
      obtain ⟨p, hp⟩ := Option.isSome_iff_exists.1 this
      exact ⟨r, p, hp, h2⟩
    · rintro ⟨r, o, h1, h2⟩
      have : (look (sh.hOf (sh.pick st)) r).isSome = true := by
        rw [look_isSome, hkeys, ← look_isSome, h1]; rfl
      obtain ⟨p, hp⟩ := Option.isSome_iff_exists.1 this
      exact ⟨r, p, hp, h2⟩
  intro X I μ β w as' hX hT hW hS hb h1 hdf hcx hro him hB hbel hheap hl ha
  have hbld : hasBld (sh.hOf (sh.pick st)) = hasBld H := by
    have hd' : distinct ((sh.hOf (sh.pick st)).map fun x => x.1) = true := by rw [hkeys]; exact hd
    cases hB1 : hasBld H
    · cases hB2 : hasBld (sh.hOf (sh.pick st))
      · rfl
      · simp only [hasBld, List.any_eq_true] at hB2
        obtain ⟨x, hx, hxb⟩ := hB2
        obtain ⟨p, k1, _, k2, _⟩ := key hheap x.1 x.2 (look_distinct hd' hx)
        have : hasBld H = true := by
          simp only [hasBld, List.any_eq_true]
          exact ⟨_, look_mem H _ _ k1, by rw [← k2]; exact hxb⟩
        rw [this] at hB1; cases hB1
    · simp only [hasBld, List.any_eq_true] at hB1
      obtain ⟨x, hx, hxb⟩ := hB1
      have hlk := look_distinct hd hx
      have : (look (sh.hOf (sh.pick st)) x.1).isSome = true := by rw [look_isSome, hkeys, ← look_isSome, hlk]; rfl
      obtain ⟨o, ho⟩ := Option.isSome_iff_exists.1 this
      obtain ⟨p, k1, _, k2, _⟩ := key hheap x.1 o ho
      rw [hlk] at k1; injection k1 with k1
      simp only [hasBld, List.any_eq_true]
      exact ⟨_, look_mem _ _ _ ho, by show o.isBld = true; rw [k2, ← k1]; exact hxb⟩
  have hlen : (sh.asOf n (sh.pick st)).length = n := by simp [Shape.asOf]
  refine h X I μ β w as' hX hT hW (by rw [hblocks]; exact hS) (by rw [hbld]; exact hb) h1 hdf hcx hro him hB hbel (hheap.part (key hheap)) (by omega) ?_
  · intro i hi
    have hin : i < n := by omega
    have e : (sh.asOf n (sh.pick st)).getD i .any = (look (buildT sh.t 0 (sh.pick st)) i).getD .any := by
      simp [Shape.asOf, List.getD_eq_getElem?_getD, List.getElem?_map, List.getElem?_range hin]
    rw [e]
    cases hlk : look (buildT sh.t 0 (sh.pick st)) i with
    | none => exact RepG.any I μ _
    | some g =>
      obtain ⟨k, k1, rfl⟩ := fitT_look (st := st) (l := sh.t) (pre := []) (post := pickH st.h sh.h) hft.1 (by simpa [Shape.pick] using hlk)
      have := ha i (by omega)
      rw [← ht i (by omega)] at this
      exact fitG_rep k1 this

theorem pureOk_none {f : FuncId} {G : PureG} (he : Enters P f) (h : ∀ vs R K, G vs R K = none) : PureOk P E W0 f G :=
  ⟨fun vs R K => by rw [h, h]; rfl, fun vs v k => by rw [h] at k; cases k⟩
theorem heapOk_none {f : FuncId} {G : HeapG} (he : Enters P f) (h : ∀ as H R K, G as H R K = none) : HeapGOk P E tB W0 f G :=
  ⟨fun as H R K => by rw [h, h]; rfl, fun as H v H' k => by rw [h] at k; cases k⟩
theorem argG_none {ks : List AK} {F : List PV → Cps GV} (h : ∀ vs R K, F vs R K = none) (vs : List PV) (R : Type) (K : GV → Option R) : argG ks F vs R K = none := by
  unfold argG; cases fitArgs ks vs
  · rfl
  · exact h vs R K
theorem argH_none {n : Nat} {sh : Shape} {F : List PV → (R : Type) → (GV → List (Nat × Ob) → Option R) → Option R} (h : ∀ vs R K, F vs R K = none) (as : List GV) (H : List (Nat × Ob)) (R : Type) (K : GV → List (Nat × Ob) → Option R) : argH n sh F as H R K = none := by
  unfold argH; cases sh.fitsH n as H
  · rfl
  · exact h _ R K

def loopK {R : Type} (E : Env) (e : LoopE) (k : Nat) (K : Exit → St → Option R) : Exit → St → Option R := fun x st => match x with
  | .normal => e.wrap E k R st K
  | x => K x (e.mask x st)
/-- What a loop owes, a second part. -/
structure LoopIs (E : Env) (n : Nat) (c : Code) (ρ : Nat → RhoF) (ls : List LoopE) (cs : List CutE) (e : LoopE) : Prop where
  only : onlyLoop c e.id = true
  zero : ∀ vs R K, e.L 0 vs R K = none
  mask : ∀ x st, Weak E st (e.mask x st)
  loop : ∀ k vs R (K : Exit → St → Option R), e.L (k + 1) vs R K = exec E n (ρ k R) (lam E k cs ls R) (loopAt c e.id) (e.sh.build vs) (loopK E e k K)
structure CutIs (E : Env) (n : Nat) (c : Code) (ρ : Nat → RhoF) (ls : List LoopE) (cs : List CutE) (e : CutE) : Prop where
  only : onlySecond c e.id = true
  mask : ∀ x st, Weak E st (e.mask x st)
  cut : ∀ k vs R (K : Exit → St → Option R), e.J k vs R K = exec E n (ρ k R) (lam E k cs ls R) (secondAt c e.id) (e.sh.build vs) fun x st => K x (e.mask x st)
theorem tower_of {n : Nat} {c : Code} {ρ : Nat → RhoF} {ls : List LoopE} {cs : List CutE} (h : AllL (LoopIs E n c ρ ls cs) ls) (k : AllL (CutIs E n c ρ ls cs) cs) : Tower E n c ρ ls cs :=
  ⟨fun e he => (h e he).only, fun e he => (k e he).only, fun e he => (h e he).zero, fun e he => (h e he).mask, fun e he => (h e he).loop, fun e he => (k e he).mask, fun e he => (k e he).cut⟩

section
variable {n : Nat} {c : Code} {ρ : Nat → RhoF} {ls : List LoopE} {cs : List CutE}
theorem Tower.heapH (hE : EnvOk P E tB) {f : FuncId} {fn : Func} (T : Tower E fn.ntmps c ρ ls cs) (hf : P.funcs[f]? = some fn) (hb : fn.body = some c) (hn : (fn.name == "runtime.NumGoroutine") = false) {k : Nat} (hρ : ∀ j, j ≤ k → RhoAll P E tB W0 (ρ j)) {m : Nat} {sh : Shape}
    {F : List PV → (R : Type) → (GV → List (Nat × Ob) → Option R) → Option R} (hF : ∀ vs R K, F vs R K = execHeap E (ρ k R) (lam E k cs ls R) fn (sh.asOf m vs) (sh.hOf vs) K) : HeapGOk P E tB W0 f (argH m sh F) := by
  have hN := T.nat k fun j hj => (hρ j hj).nat
  refine ⟨fun as H => ?_, fun as H v H' h => ?_⟩
  · unfold argH
    cases sh.fitsH m as H
    · intro R K; rfl
    · intro R K
      simp only [cond_true]
      rw [hF, hF]
      exact execHeap_nat E (hρ k (Nat.le_refl k)).nat fn (fun c' hc => by rw [hb] at hc; injection hc with hc; rw [← hc]; exact hN) _ _ R K
  · unfold argH at h
    cases hfit : sh.fitsH m as H
    · rw [hfit] at h; cases h
    · simp only [hfit, cond_true] at h
      rw [hF] at h
      exact HeapFn.told hfit (heapFn_of hE (fun R => (hρ k (Nat.le_refl k)).ok R) hf hn hb (fun R => T.loopsOk hE R k fun j hj => (hρ j (by omega)).ok R) (fun R => T.cutsOk k R) h)
end
end
end Go.Dip
end

/- An ideal semantics of the model's code, part 34: a table of types, checked by the kernel. -/
section
set_option linter.unusedVariables false
set_option linter.unusedSimpArgs false
namespace Go.Dip

inductive Tr where
  | leaf
  | node (t : Nat) (k : TK) (sz by_ : Nat) (l r : Tr)
def Tr.get : Tr → Nat → Option (TK × Nat × Nat)
  | .leaf, _ => none
  | .node t k sz by_ l r, i => bif Nat.beq i t then some (k, sz, by_) else bif Nat.blt i t then l.get i else r.get i
def Tr.ty (T : Tr) (i : Nat) : TK := match T.get i with
  | some x => x.1
  | none => .other
def Tr.sz (T : Tr) (i : Nat) : Nat := match T.get i with
  | some x => x.2.1
  | none => 0
def Tr.by_ (T : Tr) (i : Nat) : Nat := match T.get i with
  | some x => x.2.2
  | none => 0
def Tr.env (T : Tr) (tb : TypeId) : Env := { ty := T.ty, sz := T.sz, by_ := T.by_, tb := tb, dp := fun _ => true }
def Tr.all (p : Nat → TK → Nat → Bool) : Tr → Bool
  | .leaf => true
  | .node t k sz _ l r => p t k sz && (l.all p && r.all p)
theorem Tr.all_get {p : Nat → TK → Nat → Bool} : ∀ {T : Tr} {i : Nat} {x : TK × Nat × Nat}, T.all p = true → T.get i = some x → p i x.1 x.2.1 = true
  | .leaf, i, x, _, h => by cases h
  | .node t k sz b l r, i, x, ha, h => by
    simp only [Tr.all, Bool.and_eq_true] at ha
    simp only [Tr.get, nbeq] at h
    by_cases e : i = t
    · simp only [e, decide_true, cond_true, Option.some.injEq] at h
      rw [← h, e]
      exact ha.1
    · simp only [e, decide_false, cond_false] at h
      cases hb : Nat.blt i t
      · rw [hb] at h; exact Tr.all_get ha.2.2 h
      · rw [hb] at h; exact Tr.all_get ha.2.1 h

def zeroB : CV → Value → Bool
  | .p .any, _ => true
  | .p (.bool b), .bool c => b == c
  | .p (.int k n), .int l m => decide (k = l) && decide (n = m)
  | .p (.str []), .string s => s.data.toList.isEmpty
  | .p .nilp, .pointer none => true
  | .p .nilif, .nilIface => true
  | .nils _, .slice none 0 0 => true
  | _, _ => false
def zerosB : List CV → List Value → Bool
  | [], [] => true
  | c :: cs, v :: vs => (v.oneCell' && zeroB c v) && zerosB cs vs
  | _, _ => false
theorem zeroB_rep {I : Mem} {μ : Locs} {c : CV} {v : Value} (h : zeroB c v = true) : RepC I μ c v := by
  unfold zeroB at h
  split at h
  · exact RepP.any _
  · simp only [beq_iff_eq] at h; subst h; exact RepP.bool _
  · simp only [Bool.and_eq_true, decide_eq_true_eq] at h
    obtain ⟨rfl, rfl⟩ := h
    exact RepP.int _ _
  · rename_i s
    have h1 : s = ⟨([] : List UInt8).toArray⟩ := by
      obtain ⟨⟨l⟩⟩ := s
      simp only [List.isEmpty_iff] at h
      subst h; rfl
    rw [h1]
    exact RepP.str []
  · exact RepP.nilp
  · exact RepP.nilif
  · rfl
  · cases h
theorem zerosB_rep {I : Mem} {μ : Locs} : ∀ {cs : List CV} {vs : List Value}, zerosB cs vs = true → RepCs I μ cs vs
  | [], [], _ => ⟨rfl, fun i v hv => by simp at hv⟩
  | c :: cs, v :: vs, h => by
    simp only [zerosB, Bool.and_eq_true] at h
    obtain ⟨h1, h2⟩ := zerosB_rep (I := I) (μ := μ) h.2
    refine ⟨by simp [h1], fun i u hu => ?_⟩
    cases i with
    | zero =>
      simp only [List.getElem?_cons_zero, Option.some.injEq] at hu
      subst hu
      exact ⟨zeroB_rep h.1.2, h.1.1⟩
    | succ i => simpa using h2 i u (by simpa using hu)
  | [], _ :: _, h => by simp [zerosB] at h
  | _ :: _, [], h => by simp [zerosB] at h

def pairsEq : List (Nat × TypeId) → List (Nat × TypeId) → Bool
  | [], [] => true
  | x :: l, y :: m => Nat.beq x.1 y.1 && (Nat.beq x.2 y.2 && pairsEq l m)
  | _, _ => false
theorem pairsEq_iff : ∀ {l m : List (Nat × TypeId)}, pairsEq l m = true → l = m
  | [], [], _ => rfl
  | x :: l, y :: m, h => by
    simp only [pairsEq, Bool.and_eq_true, nbeq, decide_eq_true_eq] at h
    rw [pairsEq_iff h.2.2, Prod.ext h.1 h.2.1]
  | [], _ :: _, h => by simp [pairsEq] at h
  | _ :: _, [], h => by simp [pairsEq] at h

def isAggV : Value → Bool
  | .agg _ => true
  | _ => false
/-- The zero value and the size of a type of known kind. -/
def szB (P : Program) (E : Env) (t : TypeId) (sz : Nat) : Bool := match P.info? t with
  | some i => Nat.beq i.size sz && match i.zero with
    | some z => zerosB (zeroOf E 6 t) z.cells.toList && (Nat.beq (zeroOf E 6 t).length sz && Nat.beq z.cells.size sz)
    | none => false
  | none => false
def kindB (P : Program) (E : Env) (tB : TypeId) (t : TypeId) : TK → Bool
  | .int k => match P.underlying t with
    | some (.int k') => decide (k' = k)
    | _ => false
  | .bool => match P.underlying t with
    | some .bool => true
    | _ => false
  | .str => match P.underlying t with
    | some .string => true
    | _ => false
  | .slice e => match P.underlying t with
    | some (.slice e') => Nat.beq e' e && match P.info? e with
      | some i => Nat.beq i.size (E.sz e) && (Nat.ble i.bytes 256 && (Nat.ble (E.sz e) 64 && (Nat.blt 0 (E.sz e) && match i.zero with
        | some z => Nat.beq z.cells.size (E.sz e)
        | none => false)))
      | none => false
    | _ => false
  | .ptr e => match P.underlying t with
    | some (.pointer e') => Nat.beq e' e
    | _ => false
  | .iface => match P.underlying t with
    | some (.interface _) => true
    | _ => false
  | .fn => match P.underlying t with
    | some (.func _ _ _) => true
    | _ => false
  | .struct fs => match P.underlying t with
    | some (.struct Fs) => pairsEq fs (Fs.toList.map fun f => (f.offset, f.type)) && ((!fs.all (fun f => isScalar (E.ty f.2)) || (!P.eqGuardType P.depth t && (!P.stoodInHeld t && Fs.toList.all fun f => !(f.name == "_")))) &&
        ((match P.info? t with | some i => (match i.zero with | some z => isAggV z | none => false) | none => false) &&
        fs.all fun f => Nat.ble (f.1 + E.sz f.2) (E.sz t) && ((isStruct (E.ty f.2) || isScalar (E.ty f.2)) && match P.info? f.2 with
          | some i => Nat.beq i.size (E.sz f.2)
          | none => false)))
    | _ => false
  | .bld => Nat.beq t tB && match P.info? t with
    | some i => match i.zero with
      | some (.agg vs) => match vs.toList with
        | [.pointer none, .slice none 0 0] => true
        | _ => false
      | _ => false
    | none => false
  | .mapt k e => match P.underlying t with
    | some (.map k' e') => Nat.beq k' k && Nat.beq e' e
    | _ => false
  | .other => true
def oneZ (P : Program) (t : TypeId) : Bool := match P.info? t with
  | some i => match i.zero with
    | some z => !isAggV z
    | none => false
  | none => false
def entB (P : Program) (E : Env) (tB : TypeId) (t : TypeId) (k : TK) (sz : Nat) : Bool := kindB P E tB t k && bif isScalar k then Nat.beq sz 1 && (szB P E t sz && oneZ P t) else bif isStruct k then szB P E t sz else true
def envB (P : Program) (T : Tr) (tb tB : TypeId) : Bool :=
  T.all (entB P (T.env tb) tB) && ((!Nat.beq tB tb) && ((match T.ty tb with | .int .u8 => true | _ => false) && P.follows .mixedOrders))

section
variable {P : Program} {T : Tr} {tb tB : TypeId}
theorem szB_inv {E : Env} {t : TypeId} {sz : Nat} (h : szB P E t sz = true) : ∃ i z, P.info? t = some i ∧ i.size = sz ∧ i.zero = some z ∧ ZeroRep (zeroOf E 6 t) z ∧ (zeroOf E 6 t).length = sz ∧ z.cells.size = sz := by
  unfold szB at h
  split at h
  · rename_i i hi
    simp only [Bool.and_eq_true, nbeq, decide_eq_true_eq] at h
    obtain ⟨h1, h2⟩ := h
    split at h2
    · rename_i z hz
      simp only [Bool.and_eq_true, decide_eq_true_eq] at h2
      exact ⟨i, z, hi, h1, hz, fun I μ => zerosB_rep h2.1, h2.2.1, h2.2.2⟩
    · cases h2
  · cases h
theorem envOk_of (h : envB P T tb tB = true) : EnvOk P (T.env tb) tB := by
  simp only [envB, Bool.and_eq_true, Bool.not_eq_true'] at h
  obtain ⟨hT, hne, hu8, hmix⟩ := h
  have ent : ∀ t, (T.env tb).ty t ≠ .other → entB P (T.env tb) tB t ((T.env tb).ty t) ((T.env tb).sz t) = true := by
    intro t ht
    cases hg : T.get t with
    | none => exact absurd (by simp [Tr.env, Tr.ty, hg]) ht
    | some x =>
      have := Tr.all_get hT hg
      simpa [Tr.env, Tr.ty, Tr.sz, hg] using this
  have scal : ∀ t, isScalar ((T.env tb).ty t) = true → kindB P (T.env tb) tB t ((T.env tb).ty t) = true ∧ (T.env tb).sz t = 1 ∧ szB P (T.env tb) t 1 = true ∧ oneZ P t = true := by
    intro t ht
    have h1 := ent t (fun e => by rw [e] at ht; cases ht)
    simp only [entB, Bool.and_eq_true, ht, cond_true, nbeq, decide_eq_true_eq] at h1
    exact ⟨h1.1, h1.2.1, by rw [← h1.2.1]; exact h1.2.2.1, h1.2.2.2⟩
  have stru : ∀ t, isStruct ((T.env tb).ty t) = true → kindB P (T.env tb) tB t ((T.env tb).ty t) = true ∧ szB P (T.env tb) t ((T.env tb).sz t) = true := by
    intro t ht
    have h1 := ent t (fun e => by rw [e] at ht; cases ht)
    have hs : isScalar ((T.env tb).ty t) = false := by cases hk : (T.env tb).ty t <;> rw [hk] at ht <;> first | rfl | cases ht
    simp only [entB, Bool.and_eq_true, ht, hs, cond_true, cond_false] at h1
    exact h1
  refine ⟨?_, ?_, ?_, ?_, ?_, ?_, ?_, ?_, ?_, ?_, ?_, ?_, ?_, ?_, ?_, ?_⟩
  · intro t ht
    obtain ⟨h1, h2, h3, h9⟩ := scal t ht
    obtain ⟨i, z, k1, k2, _⟩ := szB_inv h3
    have : ∃ d, P.underlying t = some d ∧ isFlat d = true := by
      revert h1 ht
      cases (T.env tb).ty t <;> intro ht h1 <;> simp only [kindB] at h1 <;> first
        | (cases ht; done)
        | (split at h1 <;> first | (rename_i e; exact ⟨_, e, rfl⟩) | cases h1)
    obtain ⟨d, d1, d2⟩ := this
    exact ⟨d, i, d1, d2, k1, k2, h2⟩
  · intro t fs hfs
    obtain ⟨h1, h2⟩ := stru t (by rw [hfs]; rfl)
    obtain ⟨i, z, k1, k2, _⟩ := szB_inv h2
    rw [hfs] at h1
    simp only [kindB] at h1
    split at h1
    · rename_i Fs hF
      simp only [Bool.and_eq_true] at h1
      exact ⟨Fs, i, hF, pairsEq_iff h1.1, k1, k2⟩
    · cases h1
  · intro t k ht
    obtain ⟨h1, _⟩ := scal t (by rw [ht]; rfl)
    rw [ht] at h1
    simp only [kindB] at h1
    split at h1
    · rename_i k' hk; simp only [decide_eq_true_eq] at h1; rw [hk, h1]
    · cases h1
  · intro t ht
    obtain ⟨h1, _⟩ := scal t (by rw [ht]; rfl)
    rw [ht] at h1
    simp only [kindB] at h1
    split at h1
    · assumption
    · cases h1
  · intro t ht
    obtain ⟨h1, _⟩ := scal t (by rw [ht]; rfl)
    rw [ht] at h1
    simp only [kindB] at h1
    split at h1
    · assumption
    · cases h1
  · intro t e ht
    obtain ⟨h1, _⟩ := scal t (by rw [ht]; rfl)
    rw [ht] at h1
    simp only [kindB] at h1
    split at h1
    · rename_i e' he
      simp only [Bool.and_eq_true, nbeq, decide_eq_true_eq] at h1
      obtain ⟨h1, h2⟩ := h1
      subst h1
      split at h2
      · rename_i i hi
        simp only [Bool.and_eq_true, decide_eq_true_eq, Nat.ble_eq, Nat.blt_eq] at h2
        obtain ⟨a1, a2, a3, a4, a5⟩ := h2
        split at a5
        · rename_i z hz
          simp only [decide_eq_true_eq] at a5
          exact ⟨he, i, z, hi, a1, hz, a5, a4, a2, a3⟩
        · cases a5
      · cases h2
    · cases h1
  · intro t e ht
    obtain ⟨h1, _⟩ := scal t (by rw [ht]; rfl)
    rw [ht] at h1
    simp only [kindB] at h1
    split at h1
    · rename_i e' he
      simp only [nbeq, decide_eq_true_eq] at h1
      rw [he, h1]
    · cases h1
  · intro t ht
    obtain ⟨h1, _⟩ := scal t (by rw [ht]; rfl)
    rw [ht] at h1
    simp only [kindB] at h1
    split at h1
    · rename_i ms hm; exact ⟨ms, hm⟩
    · cases h1
  · intro s fs hfs f hf
    obtain ⟨h1, _⟩ := stru s (by rw [hfs]; rfl)
    rw [hfs] at h1
    simp only [kindB] at h1
    split at h1
    · simp only [Bool.and_eq_true, List.all_eq_true] at h1
      have := h1.2.2.2 f hf
      simp only [Bool.and_eq_true, Nat.ble_eq, Bool.or_eq_true] at this
      obtain ⟨a1, a2, a3⟩ := this
      split at a3
      · rename_i i hi
        simp only [nbeq, decide_eq_true_eq] at a3
        exact ⟨a1, ⟨i, hi, a3⟩, a2⟩
      · cases a3
    · cases h1
  · intro t ht
    rcases ht with ht | ht
    · obtain ⟨h1, h2⟩ := stru t ht
      obtain ⟨i, z, k1, k2, k3, k4, k5, k6⟩ := szB_inv h2
      refine ⟨i, z, k1, k3, k4, fun _ => ?_, k5, fun e => by revert e ht; cases (T.env tb).ty t <;> intro ht e <;> first | (cases ht; done) | cases e⟩
      revert h1 ht
      cases hk : (T.env tb).ty t <;> intro ht h1 <;> first | (cases ht; done) | skip
      simp only [kindB] at h1
      split at h1
      · simp only [Bool.and_eq_true, k1, k3] at h1
        have := h1.2.2.1
        cases z <;> first | (cases this; done) | exact ⟨_, rfl⟩
      · cases h1
    · obtain ⟨h1, h2, h3, h9⟩ := scal t ht
      obtain ⟨i, z, k1, k2, k3, k4, k5, k6⟩ := szB_inv h3
      refine ⟨i, z, k1, k3, k4, fun e => ?_, by rw [h2]; exact k5, fun _ => by
        unfold oneZ at h9
        rw [k1] at h9
        simp only [k3, Bool.not_eq_true'] at h9
        cases z <;> first | rfl | cases h9⟩
      revert e ht
      cases (T.env tb).ty t <;> intro ht e <;> first | (cases ht; done) | cases e
  · intro t fs hfs hall
    obtain ⟨h1, _⟩ := stru t (by rw [hfs]; rfl)
    rw [hfs] at h1
    simp only [kindB] at h1
    split at h1
    · rename_i Fs hF
      simp only [Bool.and_eq_true, Bool.or_eq_true, Bool.not_eq_true', hall] at h1
      obtain ⟨_, h1, _⟩ := h1
      rcases h1 with h1 | ⟨a1, a2, a3⟩
      · cases h1
      refine ⟨a1, a2, fun Gs hG f hf => ?_⟩
      rw [hF] at hG
      injection hG with hG
      injection hG with hG
      subst hG
      simp only [List.all_eq_true] at a3
      have := a3 f hf
      simpa using this
    · cases h1
  · intro t ht
    have h1 := ent t (fun e => by rw [ht] at e; cases e)
    simp only [entB, Bool.and_eq_true] at h1
    have h1 := h1.1
    rw [ht] at h1
    simp only [kindB, Bool.and_eq_true, nbeq, decide_eq_true_eq] at h1
    obtain ⟨h0, h1⟩ := h1
    split at h1
    · rename_i i hi
      split at h1
      · rename_i vs hz
        split at h1
        · rename_i hv
          refine ⟨h0, i, hi, ?_⟩
          rw [hz]
          have : vs = #[.pointer none, .slice none 0 0] := by
            obtain ⟨l⟩ := vs
            simp only at hv
            rw [hv]
          rw [this]
        · cases h1
      · cases h1
    · cases h1
  · intro e
    rw [e, nbeq] at hne
    simp [Tr.env] at hne
  · show T.ty tb = .int .u8
    split at hu8
    · assumption
    · cases hu8
  · intro t k e ht
    obtain ⟨h1, _⟩ := scal t (by rw [ht]; rfl)
    rw [ht] at h1
    simp only [kindB] at h1
    split at h1
    · rename_i k' e' he
      simp only [Bool.and_eq_true, nbeq, decide_eq_true_eq] at h1
      rw [he, h1.1, h1.2]
    · cases h1
  · exact hmix
end
end Go.Dip
end

/- An ideal semantics of the model's code: functions run by fuel, out of a table. -/
section
set_option linter.unusedVariables false
set_option linter.unusedSimpArgs false
namespace Go.Dip

inductive Tree (α : Type) where
  | leaf
  | node (k : Nat) (v : α) (l r : Tree α)
def Tree.get {α : Type} : Tree α → Nat → Option α
  | .leaf, _ => none
  | .node k v l r, i => bif Nat.beq i k then some v else bif Nat.blt i k then l.get i else r.get i

/-! A state at a loop's head: only what is needed, by new keys. -/
def newest : List Nat → List (Nat × GV) → List (Nat × GV)
  | _, [] => []
  | seen, x :: l => bif isIn seen x.1 then newest seen l else x :: newest (x.1 :: seen) l
def isAny : GV → Bool
  | .c (.p .any) => true
  | .c (.p .gone) => true
  | _ => false
def maxL (l : List Nat) : Nat := l.foldl Nat.max 0
def baseL (l : List Nat) : Nat := Nat.mul 1000 (Nat.max 2 (Nat.div (maxL l) 1000 + 1))
def moved (m q : Nat) : Nat := bif Nat.blt q 1000 then Nat.add m q else q
def isHanded (x : Nat × Ob) : Bool := Nat.ble 1000 x.1 && Nat.blt x.1 2000
def St.prune (st : St) : St :=
  let t := (newest [] st.t).filter fun x => !isAny x.2
  let tk := t.flatMap fun x => x.2.keys
  let ks := reach st.h 1000 (tk ++ (st.h.filter isHanded).map fun x => x.1) []
  let h := st.h.filter fun x => isIn ks x.1
  let m := baseL (tk ++ h.flatMap fun x => x.1 :: x.2.keys)
  { t := t.map fun x => (x.1, x.2.map (CV.ren (moved m))), h := h.map fun x => (moved m x.1, x.2.map (CV.ren (moved m))) }

theorem newest_look : ∀ {l : List (Nat × GV)} {seen : List Nat} {x : Nat × GV}, x ∈ newest seen l → x.1 ∉ seen ∧ look l x.1 = some x.2
  | [], _, x, h => by cases h
  | y :: l, seen, x, h => by
    simp only [newest] at h
    rw [look_cons]
    cases hs : isIn seen y.1
    · rw [hs, cond_false] at h
      rcases List.mem_cons.1 h with rfl | h
      · exact ⟨fun hm => (by rw [isIn_iff.2 hm] at hs; cases hs), by simp⟩
      · obtain ⟨h1, h2⟩ := newest_look h
        simp only [List.mem_cons, not_or] at h1
        exact ⟨h1.2, by rw [if_neg h1.1]; exact h2⟩
    · rw [hs, cond_true] at h
      obtain ⟨h1, h2⟩ := newest_look h
      refine ⟨h1, ?_⟩
      rw [if_neg]
      · exact h2
      · intro e
        exact h1 (e ▸ isIn_iff.1 hs)
theorem look_filterK {p : Nat → Bool} {q : Nat} {o : Ob} : ∀ {l : List (Nat × Ob)}, look (l.filter fun x => p x.1) q = some o → look l q = some o
  | [], h => h
  | x :: l, h => by
    rw [look_cons]
    cases hp : p x.1
    · rw [List.filter_cons_of_neg (by rw [hp]; simp)] at h
      by_cases e : q = x.1
      · have : look (l.filter fun x => p x.1) q = none := look_none_of fun y hy e' => by
          have := (List.mem_filter.1 hy).2
          rw [e', e, hp] at this
          cases this
        rw [this] at h; cases h
      · rw [if_neg e]; exact look_filterK h
    · rw [List.filter_cons_of_pos (by rw [hp])] at h
      rw [look_cons] at h
      by_cases e : q = x.1
      · rw [if_pos e] at h ⊢; exact h
      · rw [if_neg e] at h ⊢; exact look_filterK h
theorem look_mapK {f : Nat → Nat} {g : Ob → Ob} {q : Nat} {o : Ob} : ∀ {l : List (Nat × Ob)}, look (l.map fun x => (f x.1, g x.2)) q = some o → ∃ k p, look l k = some p ∧ q = f k ∧ o = g p
  | [], h => by cases h
  | x :: l, h => by
    simp only [List.map_cons, look_cons] at h
    by_cases e : q = f x.1
    · rw [if_pos e] at h
      injection h with h
      exact ⟨x.1, x.2, by simp [look_cons], e, h.symm⟩
    · rw [if_neg e] at h
      obtain ⟨k, p, h1, h2, h3⟩ := look_mapK h
      refine ⟨k, p, ?_, h2, h3⟩
      rw [look_cons, if_neg]
      · exact h1
      · intro e'
        rw [e'] at h2
        exact e h2
theorem foldl_max (l : List Nat) : ∀ a, a ≤ l.foldl Nat.max a ∧ ∀ x, x ∈ l → x ≤ l.foldl Nat.max a := by
  induction l with
  | nil => intro a; exact ⟨Nat.le_refl _, fun x h => by cases h⟩
  | cons y l ih =>
    intro a
    obtain ⟨h1, h2⟩ := ih (Nat.max a y)
    simp only [List.foldl_cons]
    refine ⟨Nat.le_trans (Nat.le_max_left a y) h1, fun x hx => ?_⟩
    rcases List.mem_cons.1 hx with rfl | hx
    · exact Nat.le_trans (Nat.le_max_right a x) h1
    · exact h2 x hx
theorem baseL_gt {l : List Nat} {q : Nat} (h : q ∈ l) : q < baseL l := by
  have h1 := (foldl_max l 0).2 q h
  have h2 : maxL l = l.foldl Nat.max 0 := rfl
  have h3 : baseL l = 1000 * max 2 (maxL l / 1000 + 1) := rfl
  omega
theorem baseL_big (l : List Nat) : 2000 ≤ baseL l := by
  have h3 : baseL l = 1000 * max 2 (maxL l / 1000 + 1) := rfl
  omega
def muM (m : Nat) (μ : Locs) : Locs := fun k => if m ≤ k ∧ k < m + 1000 then μ (k - m) else μ k
def unM (m k : Nat) : Nat := if m ≤ k then k - m else k
theorem moved_lt {m q : Nat} (h : q < 1000) : moved m q = m + q := by
  have e1 : Nat.blt q 1000 = true := by rw [Nat.blt_eq]; exact h
  simp only [moved, e1, cond_true]
  rfl
theorem moved_ge {m q : Nat} (h : ¬ q < 1000) : moved m q = q := by
  have e1 : Nat.blt q 1000 = false := by
    cases hb : Nat.blt q 1000 with
    | false => rfl
    | true => rw [Nat.blt_eq] at hb; exact absurd hb h
  simp only [moved, e1, cond_false]
theorem muM_moved {m q : Nat} (μ : Locs) (h : q < m) : muM m μ (moved m q) = μ q := by
  by_cases e : q < 1000
  · rw [moved_lt e, muM, if_pos (by omega)]
    congr 1
    omega
  · rw [moved_ge e, muM, if_neg (by omega)]
theorem unM_moved {m q : Nat} (h : q < m) : unM m (moved m q) = q := by
  by_cases e : q < 1000
  · rw [moved_lt e, unM, if_pos (by omega)]
    omega
  · rw [moved_ge e, unM, if_neg (by omega)]
theorem Sim.prune {X : Cx} {n : Nat} {I : Mem} {μ : Locs} {st : St} {a : Act} {w : World} (hr : RowsOk μ) (h : Sim X n I μ st a w) : ∃ ν, (RowsOk ν ∧ Keep μ ν) ∧ Sim X n I ν st.prune a w := by
  unfold St.prune
  simp only
  generalize htt : (newest [] st.t).filter (fun x => !isAny x.2) = t
  generalize hks : reach st.h 1000 ((t.flatMap fun x => x.2.keys) ++ (st.h.filter isHanded).map fun x => x.1) [] = ks
  generalize hhh : st.h.filter (fun x => isIn ks x.1) = hp
  generalize hm : baseL ((t.flatMap fun x => x.2.keys) ++ hp.flatMap fun x => x.1 :: x.2.keys) = m
  have hm2 : 2000 ≤ m := by rw [← hm]; exact baseL_big _
  refine ⟨muM m μ, ⟨fun r v c hrc => ?_, fun q l h1 h2 h3 => ⟨l, ?_, l.later_refl⟩⟩, ?_⟩
  · unfold muM at hrc
    split at hrc
    · exact hr _ v c hrc
    · exact hr _ v c hrc
  · rw [muM, if_neg (by omega)]; exact h3
  · have ho : ∀ k o, look (hp.map fun x => (moved m x.1, x.2.map (CV.ren (moved m)))) k = some o → ∃ k0 p, look st.h k0 = some p ∧ k = moved m k0 ∧ o = p.map (CV.ren (moved m)) ∧ k0 < m ∧ ∀ j, j ∈ p.keys → j < m := by
      intro k o hk
      obtain ⟨k0, p, h1, h2, h3⟩ := look_mapK hk
      have hmem : (k0, p) ∈ hp := look_mem _ _ _ h1
      rw [← hhh] at h1
      refine ⟨k0, p, look_filterK h1, h2, h3, ?_, fun j hj => ?_⟩
      · rw [← hm]
        apply baseL_gt
        rw [List.mem_append, List.mem_flatMap]
        exact .inr (List.mem_flatMap.2 ⟨(k0, p), hmem, by simp⟩)
      · rw [← hm]
        apply baseL_gt
        rw [List.mem_append, List.mem_flatMap]
        exact .inr (List.mem_flatMap.2 ⟨(k0, p), hmem, by simp [hj]⟩)
    refine h.told (fun i v hv => ?_) (unM m) (fun k k' o o' hk hk' e => ?_) (fun k o hk => ?_)
    · have hmem := look_mem _ _ _ hv
      obtain ⟨x, hx, e⟩ := List.mem_map.1 hmem
      injection e with e1 e2
      subst e1
      have hx' := hx
      rw [← htt] at hx'
      obtain ⟨_, h2⟩ := newest_look (List.mem_filter.1 hx').1
      rw [← e2]
      refine (h.t _ _ h2).ren fun r hrr => muM_moved μ ?_
      rw [← hm]
      apply baseL_gt
      rw [List.mem_append, List.mem_flatMap]
      exact .inl ⟨x, hx, hrr⟩
    · obtain ⟨k0, p, h1, rfl, _, h4, _⟩ := ho k o hk
      obtain ⟨k1, p', h1', rfl, _, h4', _⟩ := ho k' o' hk'
      rw [unM_moved h4, unM_moved h4'] at e
      rw [e]
    · obtain ⟨k0, p, h1, rfl, rfl, h4, h5⟩ := ho k o hk
      rw [unM_moved h4]
      exact ⟨muM_moved μ h4, p, h1, fun bs hbs => hbs.ren rfl rfl rfl (muM_moved μ h4) (fun j hj => muM_moved μ (h5 j hj)) (fun _ _ _ h => h), Ob.map_isBld _ p, Ob.map_isByte _ X.E p⟩
theorem prune_weak (E : Env) (st : St) : Weak E st st.prune := fun {X n I μ a w} hX hr hs => by
  obtain ⟨ν, h1, h2⟩ := hs.prune hr
  exact ⟨I, ν, NewI.refl X I, h1, h2⟩

/-! Loops by fuel. -/
section
variable {R : Type}
def lamN (E : Env) (n : Nat) (ρ : FuncId → Option (Callee R)) (ls : List (Nat × Code)) : Nat → Nat → Option (Wrap R)
  | 0, _ => none
  | k + 1, i => match look ls i with
    | some c => some fun st K => exec E n ρ (lamN E n ρ ls k) c st.prune fun e st => match e with
      | .normal => match lamN E n ρ ls k i with
        | some L => L st K
        | none => none
      | e => K e st
    | none => none
end
def lsOf (c : Code) : List (Nat × Code) := (loops c).map fun c => (2 * fr c, c)
theorem look_lsOf {l : List Code} {i : Nat} {c : Code} (h : look (l.map fun c => (2 * fr c, c)) i = some c) : c ∈ l ∧ i = 2 * fr c := by
  have := look_mem _ _ _ h
  obtain ⟨d, hd, e⟩ := List.mem_map.1 this
  injection e with e1 e2
  subst e2
  exact ⟨hd, e1.symm⟩
theorem lsOf_only : ∀ {l : List Code} {c d : Code}, distinct (l.map fr) = true → c ∈ l → d ∈ l → fr c = fr d → c = d
  | [], c, d, _, h, _, _ => by cases h
  | x :: l, c, d, hd, hc, hdd, e => by
    simp only [List.map_cons, distinct, Bool.and_eq_true, Bool.not_eq_true'] at hd
    have no : ∀ y, y ∈ l → fr y ≠ fr x := fun y hy e => by
      have : isIn (l.map fr) (fr x) = true := isIn_iff.2 (List.mem_map.2 ⟨y, hy, e⟩)
      rw [this] at hd
      cases hd.1
    rcases List.mem_cons.1 hc with ec | hc
    · rcases List.mem_cons.1 hdd with ed | hdd
      · rw [ec, ed]
      · exact absurd (by rw [← e, ec]) (no d hdd)
    · rcases List.mem_cons.1 hdd with ed | hdd
      · exact absurd (by rw [e, ed]) (no c hc)
      · exact lsOf_only hd.2 hc hdd e
theorem lamN_odd {R : Type} {E : Env} {n : Nat} {ρ : FuncId → Option (Callee R)} {c : Code} (k i : Nat) : lamN E n ρ (lsOf c) k (2 * i + 1) = none := by
  cases k with
  | zero => rfl
  | succ k =>
    simp only [lamN]
    cases h : look (lsOf c) (2 * i + 1) with
    | none => rfl
    | some d =>
      obtain ⟨_, h2⟩ := look_lsOf h
      omega
theorem lamN_key (E : Env) (n : Nat) {ρ : RhoF} (hρ : RhoNat ρ) (ls : List (Nat × Code)) : ∀ (k i : Nat), KeyNat (fun R => lamN E n (ρ R) ls k) i
  | 0, i => .inl fun R => rfl
  | k + 1, i => by
    have ih := lamN_key E n hρ ls k
    cases hl : look ls i with
    | none => exact .inl fun R => by simp only [lamN, hl]
    | some c =>
      refine .inr ⟨fun R st K => exec E n (ρ R) (lamN E n (ρ R) ls k) c st.prune fun e st => match e with
        | .normal => match lamN E n (ρ R) ls k i with
          | some L => L st K
          | none => none
        | e => K e st, fun R => by simp only [lamN, hl], fun st => ?_⟩
      refine (exec_nat E n (Λ := fun R => lamN E n (ρ R) ls k) hρ c ⟨fun c' _ => ih _, fun b _ => ih _⟩ st.prune).comp2 (h := fun e st R K => match e with
        | .normal => match lamN E n (ρ R) ls k i with
          | some L => L st K
          | none => none
        | e => K e st) fun e st => ?_
      cases e with
      | normal =>
        rcases ih i with h | ⟨L, h1, h2⟩
        · intro R K
          have a1 := h R
          have a2 := h (Exit × St)
          simp only at a1 a2 ⊢
          rw [a1, a2]
          rfl
        · intro R K
          have a1 := h1 R
          have a2 := h1 (Exit × St)
          simp only at a1 a2 ⊢
          rw [a1, a2]
          exact h2 st R K
      | _ => exact .ret _ _
section
variable {P : Program} {E : Env} {tB : TypeId} {W0 : World}
theorem lamN_ok (hE : EnvOk P E tB) {R : Type} {n : Nat} {ρ : FuncId → Option (Callee R)} (hρ : RhoOk P E tB W0 ρ) {c : Code} (hd : distinct ((loops c).map fr) = true) : ∀ (k : Nat) c', c' ∈ loops c → ∀ L, lamN E n ρ (lsOf c) k (2 * fr c') = some L → LoopOk P E tB W0 n c' L := by
  intro k
  induction k using Nat.strongRecOn with
  | _ k ih =>
    intro c' hc L hL
    have h1 := loop_ok (P := P) (tB := tB) (W0 := W0) (n := n) (c := c') (X := fun k st K => match lamN E n ρ (lsOf c) k (2 * fr c') with
      | some L => L st K
      | none => none) (ρ := fun _ => ρ) (Λ := fun k => lamN E n ρ (lsOf c) k) hE (fun st K => rfl) (fun j st K r h => ?_) k (fun j hj => ⟨hρ, fun d hdd L hL => ih j hj d ((loops_sub c hc).1 d hdd) L hL, fun b _ J hJ => ?_⟩)
    · intro st K r hK
      refine h1 st K r ?_
      simp only [hL]
      exact hK
    · simp only [lamN] at h
      split at h
      · rename_i L' hL'
        split at hL'
        · rename_i d hdl
          obtain ⟨m1, m2⟩ := look_lsOf hdl
          have e : c' = d := lsOf_only hd hc m1 (by omega)
          subst e
          injection hL' with hL'
          subst hL'
          exact ⟨_, fun _ st => st, prune_weak E st, fun _ st => Weak.refl E st, h⟩
        · cases hL'
      · cases h
    · rw [lamN_odd] at hJ
      cases hJ

/-! A table of functions. -/
def bodyB (fn : Func) : Bool := match fn.body with
  | some c => distinct ((loops c).map fr)
  | none => false
structure FnOk (P : Program) (g : FuncId) (fn : Func) : Prop where
  at_ : P.funcs[g]? = some fn
  name : (fn.name == "runtime.NumGoroutine") = false
  body : bodyB fn = true
abbrev Fns := Tree (Func × Bool)
def Tree.Ok (P : Program) : Fns → Prop
  | .leaf => True
  | .node k v l r => FnOk P k v.1 ∧ Tree.Ok P l ∧ Tree.Ok P r
theorem Tree.Ok.at_ : ∀ {fs : Fns} {g : FuncId} {x : Func × Bool}, fs.Ok P → fs.get g = some x → FnOk P g x.1
  | .leaf, _, _, _, h => by cases h
  | .node k v l r, g, x, ho, h => by
    simp only [Tree.get, nbeq] at h
    by_cases e : g = k
    · simp only [e, decide_true, cond_true, Option.some.injEq] at h
      subst h
      rw [e]
      exact ho.1
    · simp only [e, decide_false, cond_false] at h
      cases hb : Nat.blt g k
      · rw [hb] at h; exact Tree.Ok.at_ ho.2.2 h
      · rw [hb] at h; exact Tree.Ok.at_ ho.2.1 h
/-- What calls by plain values give, told ahead. -/
abbrev Memo := List (Nat × List PV × GV)
def Memo.find : Memo → Nat → List PV → Option GV
  | [], _, _ => none
  | x :: l, g, us => bif Nat.beq x.1 g && eqL (eqP 60) x.2.1 us then some x.2.2 else Memo.find l g us
def Memo.Ok (P : Program) (E : Env) (W0 : World) : Memo → Prop
  | [] => True
  | x :: l => PureFn P E W0 x.1 x.2.1 x.2.2 ∧ Memo.Ok P E W0 l
theorem Memo.Ok.at_ {P : Program} {E : Env} {W0 : World} : ∀ {m : Memo} {g : Nat} {us : List PV} {v : GV}, m.Ok P E W0 → m.find g us = some v → PureFn P E W0 g us v
  | [], _, _, _, _, h => by cases h
  | x :: l, g, us, v, ho, h => by
    simp only [Memo.find] at h
    cases hb : Nat.beq x.1 g && eqL (eqP 60) x.2.1 us
    · rw [hb] at h; exact Memo.Ok.at_ ho.2 h
    · rw [hb] at h
      simp only [cond_true, Option.some.injEq] at h
      simp only [Bool.and_eq_true] at hb
      have e1 := Nat.eq_of_beq_eq_true hb.1
      have e2 := eqL_eq (eqP_eq 60) _ _ hb.2
      rw [← e1, ← e2, ← h]
      exact ho.1
def pureN (E : Env) (m : Memo) (ρ : RhoF) (g : Nat) (fn : Func) (c : Code) : PureG := fun us R K =>
  match m.find g us with
  | some v => K v
  | none => execPure E (ρ R) (lamN E fn.ntmps (ρ R) (lsOf c) 2000) fn us K
def callN (E : Env) (m : Memo) (ρ : RhoF) (g : Nat) (fn : Func) (hp : Bool) (c : Code) (R : Type) : Callee R :=
  match hp with
  | true => .heap fun us H K => execHeap E (ρ R) (lamN E fn.ntmps (ρ R) (lsOf c) 2000) fn us H K
  | false => .pure fun us K => pureN E m ρ g fn c us R K
/-- Functions by their bodies, as the table has them; others by lib, which may call what is below. -/
def rhoN (fs : Fns) (E : Env) (lib : RhoF → RhoF) (m : Memo) : Nat → RhoF
  | 0 => rnil
  | k + 1 => fun R g => match fs.get g with
    | some x => match x.1.body with
      | none => none
      | some c => some (callN E m (rhoN fs E lib m k) g x.1 x.2 c R)
    | none => lib (rhoN fs E lib m k) R g
def runP (fs : Fns) (E : Env) (lib : RhoF → RhoF) (m : Memo) (k : Nat) (g : Nat) (us : List PV) : Option GV :=
  match rhoN fs E lib m k GV g with
  | some (.pure F) => F us some
  | _ => none
theorem fnOk_lam {ρ : RhoF} (hρ : RhoNat ρ) (n : Nat) (c : Code) (k : Nat) : LamNat (fun R => lamN E n (ρ R) (lsOf c) k) c :=
  ⟨fun c' _ => lamN_key E n hρ _ k _, fun b _ => lamN_key E n hρ _ k _⟩
theorem FnOk.pure (hE : EnvOk P E tB) {ρ : RhoF} (hρ : RhoAll P E tB W0 ρ) {g : FuncId} {fn : Func} {c : Code} (h : FnOk P g fn) (hc : fn.body = some c) (k : Nat) : PureOk P E W0 g fun us R K => execPure E (ρ R) (lamN E fn.ntmps (ρ R) (lsOf c) k) fn us K := by
  have hb := h.body
  unfold bodyB at hb
  rw [hc] at hb
  have hN := fnOk_lam (E := E) hρ.nat fn.ntmps c k
  refine ⟨fun vs => ?_, fun vs v hv => ?_⟩
  · exact execPure_nat E (Λ := fun R => lamN E fn.ntmps (ρ R) (lsOf c) k) hρ.nat fn (fun c' hc' => by rw [hc] at hc'; injection hc' with hc'; rw [← hc']; exact hN) vs
  · exact pureFn_of (Λ := fun R => lamN E fn.ntmps (ρ R) (lsOf c) k) hE hρ.nat hN hρ.ok h.at_ h.name hc (fun R => lamN_ok hE (hρ.ok R) hb k) (fun R b _ J hJ => by rw [lamN_odd] at hJ; cases hJ) hv
theorem FnOk.heap (hE : EnvOk P E tB) {ρ : RhoF} (hρ : RhoAll P E tB W0 ρ) {g : FuncId} {fn : Func} {c : Code} (h : FnOk P g fn) (hc : fn.body = some c) (k : Nat) : HeapGOk P E tB W0 g fun us H R K => execHeap E (ρ R) (lamN E fn.ntmps (ρ R) (lsOf c) k) fn us H K := by
  have hb := h.body
  unfold bodyB at hb
  rw [hc] at hb
  have hN := fnOk_lam (E := E) hρ.nat fn.ntmps c k
  refine ⟨fun vs H => ?_, fun vs H v H' hv => ?_⟩
  · exact execHeap_nat E (Λ := fun R => lamN E fn.ntmps (ρ R) (lsOf c) k) hρ.nat fn (fun c' hc' => by rw [hc] at hc'; injection hc' with hc'; rw [← hc']; exact hN) vs H
  · exact heapFn_of (Λ := fun R => lamN E fn.ntmps (ρ R) (lsOf c) k) hE hρ.ok h.at_ h.name hc (fun R => lamN_ok hE (hρ.ok R) hb k) (fun R b _ J hJ => by rw [lamN_odd] at hJ; cases hJ) hv
theorem pureN_ok (hE : EnvOk P E tB) {m : Memo} (hm : m.Ok P E W0) {ρ : RhoF} (hρ : RhoAll P E tB W0 ρ) {g : FuncId} {fn : Func} {c : Code} (h : FnOk P g fn) (hc : fn.body = some c) : PureOk P E W0 g (pureN E m ρ g fn c) := by
  have h1 := h.pure hE hρ hc 2000
  refine ⟨fun vs => ?_, fun vs v hv => ?_⟩
  · cases hf : m.find g vs with
    | none =>
      intro R K
      have := h1.nat vs R K
      simp only [pureN, hf]
      exact this
    | some v => intro R K; simp only [pureN, hf]; rfl
  · simp only [pureN] at hv
    cases hf : m.find g vs with
    | none => rw [hf] at hv; exact h1.ok vs v hv
    | some u =>
      rw [hf] at hv
      injection hv with hv
      exact hv ▸ hm.at_ hf
theorem rhoN_all (hE : EnvOk P E tB) {fs : Fns} (hfs : fs.Ok P) {m : Memo} (hm : m.Ok P E W0) {lib : RhoF → RhoF} (hl : ∀ ρ, RhoAll P E tB W0 ρ → RhoAll P E tB W0 (lib ρ)) : ∀ k, RhoAll P E tB W0 (rhoN fs E lib m k)
  | 0 => rnil_all
  | k + 1 => by
    have ih := rhoN_all hE hfs hm hl k
    have hl' := hl _ ih
    refine ⟨fun g => ?_, fun R g c hg => ?_⟩
    · cases hx : fs.get g with
      | none =>
        rcases hl'.nat g with h | ⟨F, h1, h2⟩ | ⟨F, h1, h2⟩
        · exact .inl fun R => by simp only [rhoN, h R, hx]
        · exact .inr (.inl ⟨F, fun R => by simp only [rhoN, h1 R, hx], h2⟩)
        · exact .inr (.inr ⟨F, fun R => by simp only [rhoN, h1 R, hx], h2⟩)
      | some x =>
        cases hb : x.1.body with
        | none => exact .inl fun R => by simp only [rhoN, hx, hb]
        | some c =>
          have ho := Tree.Ok.at_ hfs hx
          cases hp : x.2 with
          | false => exact .inr (.inl ⟨_, fun R => by simp only [rhoN, hx, hb, callN, hp], (pureN_ok hE hm ih ho hb).nat⟩)
          | true => exact .inr (.inr ⟨_, fun R => by simp only [rhoN, hx, hb, callN, hp], (ho.heap hE ih hb 2000).nat⟩)
    · simp only [rhoN] at hg
      split at hg
      · rename_i x hx
        split at hg
        · cases hg
        · rename_i d hb
          injection hg with hg
          have ho := Tree.Ok.at_ hfs hx
          unfold callN at hg
          split at hg
          · subst hg
            exact ((ho.heap hE ih hb 2000).all (rnil_all (P := P) (E := E) (tB := tB) (W0 := W0))).ok R g _ (by simp [rh, nbeq]; rfl)
          · subst hg
            exact ((pureN_ok hE hm ih ho hb).all (rnil_all (P := P) (E := E) (tB := tB) (W0 := W0))).ok R g _ (by simp [rp, nbeq]; rfl)
      · exact hl'.ok R g c hg
theorem runP_ok {ρ : RhoF} (hρ : RhoAll P E tB W0 ρ) {g : FuncId} {us : List PV} {v : GV} (h : (match ρ GV g with | some (.pure F) => F us some | _ => none) = some v) : PureFn P E W0 g us v := by
  split at h
  · rename_i F hF
    obtain ⟨u, h1, h2⟩ := hρ.ok GV g _ hF us some v h
    injection h1 with h1
    exact h1 ▸ h2
  · cases h
theorem memo_of (hE : EnvOk P E tB) {fs : Fns} (hfs : fs.Ok P) {m : Memo} (hm : m.Ok P E W0) {lib : RhoF → RhoF} (hl : ∀ ρ, RhoAll P E tB W0 ρ → RhoAll P E tB W0 (lib ρ)) {k g : Nat} {us : List PV} {v : GV} (h : runP fs E lib m k g us = some v) : Memo.Ok P E W0 ((g, us, v) :: m) :=
  ⟨runP_ok (rhoN_all hE hfs hm hl k) h, hm⟩
end
end Go.Dip
end

/- What the library's functions give, plainly, as the evaluator's callees are told. -/
section
set_option linter.unusedVariables false
namespace Go.Dip
variable {R : Type}
abbrev Bytes := List UInt8
/-! Tests, by name. -/
def eqI (a b : Int) : Bool := decide (a = b)
def ltI (a b : Int) : Bool := decide (a < b)
def leI (a b : Int) : Bool := decide (a ≤ b)
def gtI (a b : Int) : Bool := decide (a > b)
def geI (a b : Int) : Bool := decide (a ≥ b)
def eqS (a b : Bytes) : Bool := decide (a = b)
def leN (a b : Nat) : Bool := decide (a ≤ b)
def lCut (s sep : Bytes) (K : Bytes → Bytes → Bool → Option R) : Option R := bif decide (s.length < 4294967281) then K (Lib.cut s sep).1 (Lib.cut s sep).2.1 (Lib.cut s sep).2.2 else none
def atoiOk (s : Bytes) : Bool := match Lib.atoiAll s with
  | .ok _ => true
  | _ => false
def atoiVal (s : Bytes) : Int := match Lib.atoiAll s with
  | .ok v => v
  | .range => Lib.atoiSat s
  | _ => 0
def lAtoi (s : Bytes) (K : Int → PV → Option R) : Option R := bif decide (s.length ≤ 281474976710656) then K (atoiVal s) (bif atoiOk s then .nilif else .someif) else none
def lItoa (n : Int) (K : Bytes → Option R) : Option R := bif decide (-9223372036854775808 ≤ n) && decide (n ≤ 9223372036854775807) then K (Lib.itoa n) else none
def BLIM : Nat := 140737488355328
def lWriteString (s b : Bytes) (K : Int → PV → Bytes → Option R) : Option R := bif decide (b.length + s.length ≤ BLIM) then K ((s.length : Nat) : Int) .nilif (b ++ s) else none
def lWriteByte (c : Int) (b : Bytes) (K : PV → Bytes → Option R) : Option R := bif decide (b.length + 1 ≤ BLIM) && (decide (0 ≤ c) && decide (c < 256)) then K .nilif (b ++ [UInt8.ofNat c.toNat]) else none
def lString (b : Bytes) (K : Bytes → Bytes → Option R) : Option R := K b b
def lLen (b : Bytes) (K : Int → Bytes → Option R) : Option R := K ((b.length : Nat) : Int) b
def lJoin (es : List PV) (sep : Bytes) (K : Bytes → Option R) : Option R :=
  bif es.all isStr && (decide (es.length ≤ BLIM) && decide ((Lib.join (es.map strOf) sep).length ≤ BLIM)) then K (Lib.join (es.map strOf) sep) else none
def isAscii (cs : Bytes) : Bool := cs.all fun b => decide (b.toNat < 128)
def lTrim (s cs : Bytes) (K : Bytes → Option R) : Option R := bif decide (s.length ≤ LIM) && (decide (cs.length < 4294967281) && isAscii cs) then K (Lib.trimS s cs) else none
def lTrimLeft (s cs : Bytes) (K : Bytes → Option R) : Option R := bif decide (s.length ≤ LIM) && (decide (cs.length < 4294967281) && isAscii cs) then K (Lib.trimLeftS s cs) else none
def lValid (s : Bytes) (K : Bool → Option R) : Option R := bif decide (s.length ≤ LIM) then K (Lib.validD s) else none
def lReplaceAll (s old new : Bytes) (K : Bytes → Option R) : Option R :=
  bif decide (s.length < 4294967281) && (decide (1 ≤ old.length) && decide (s.length + Lib.count s old * new.length ≤ BLIM)) then K (Lib.replaceAll s old new) else none
def lRuneCount (s : Bytes) (K : Int → Option R) : Option R := bif decide (s.length ≤ LIM) then K ((Lib.runeCountL s : Nat) : Int) else none
def lHasPrefix (s p : Bytes) (K : Bool → Option R) : Option R := K (Lib.hasPrefix s p)
def lCutPrefix (s p : Bytes) (K : Bytes → Bool → Option R) : Option R := K (Lib.trimPrefix s p) (Lib.hasPrefix s p)
end Go.Dip
end

/- Library functions aa the evaluator's callees, by what the shelf's contracts say of them. -/
section
set_option linter.unusedVariables false
set_option linter.unusedSimpArgs false
namespace Go.Dip
open Go.RowKit

section
variable {P : Program} {E : Env} {tB : TypeId} {W0 : World}

/-! The world aa it was laid. -/
theorem cell_below {w w' : World} {a : Addr} {v : Value} (hb : Below w.heap.size w w') (h : w.cell? a = some v) : w'.cell? a = some v := by
  have hlt : a.block < w.heap.size := by
    unfold World.cell? at h
    cases hh : w.heap[a.block]? with
    | none => simp [hh] at h
    | some o => exact (Array.getElem?_eq_some_iff.1 hh).1
  unfold World.cell? at h ⊢
  rw [hb.block _ hlt]
  exact h
theorem var_below {w w' : World} {n : String} {cs : Array Value} (hb : Below w.heap.size w w') (h : w.var? P n = some cs) : w'.var? P n = some cs := by
  unfold World.var? at h ⊢
  cases hg : P.globalNamed n with
  | none => simp [hg] at h
  | some g =>
    simp only [hg, Option.bind_some] at h ⊢
    have hlt : g < w.heap.size := by
      cases hh : w.heap[g]? with
      | none => simp [hh] at h
      | some o => exact (Array.getElem?_eq_some_iff.1 hh).1
    rw [hb.block _ hlt]
    exact h
theorem tab_below {w w' : World} {n : String} {k : IntKind} {zs : List Int} (hb : Below w.heap.size w w') (h : Lib.TabIs P w n k zs) : Lib.TabIs P w' n k zs := var_below hb h

theorem below_drewN0 (w : World) (n : Nat) : Below w.heap.size w (w.drewN n) := ⟨rfl, rfl, rfl, Nat.le_refl _, fun _ _ => rfl⟩
theorem below_append (w w' : World) (h1 : w'.os = w.os) (h2 : w'.tape = w.tape) (h3 : w'.output = w.output) (os : Array Obj) (h4 : w'.heap = w.heap ++ os) : Below w.heap.size w w' :=
  ⟨h1, h2, h3, by rw [h4]; simp, fun k hk => by rw [h4, Array.getElem?_append_left hk]⟩
theorem below_push (w w' : World) (h1 : w'.os = w.os) (h2 : w'.tape = w.tape) (h3 : w'.output = w.output) (o : Obj) (h4 : w'.heap = w.heap.push o) : Below w.heap.size w w' :=
  ⟨h1, h2, h3, by rw [h4]; simp, fun k hk => by rw [h4, Array.getElem?_push_lt hk, Array.getElem?_eq_getElem hk]⟩

/-! Calls by plain values. -/
theorem ImmOk.below {X : Cx} {I : Mem} {w w' : World} (h : ImmOk X I w) (hb : Below w.heap.size w w') : ImmOk X I w' := h.belowC hb
/-- A call by plain values, as a call alone: what the shelf's contracts give. -/
def PureFnC (P : Program) (E : Env) (W0 : World) (f : FuncId) (args : List PV) (v : GV) : Prop :=
  v.keys = [] ∧ ∀ (X : Cx) (I : Mem) (w : World) (as : Array Value), X.E = E → X.W0 = W0 → ImmOk X I w → X.B ≤ w.heap.size → W0.heap.size ≤ X.B → RowKit.Below W0.heap.size W0 w →
    as.size = args.length → (∀ i, i < args.length → RepP I (args.getD i .any) (as.getD i undef)) →
    Calls P f as w fun e w' => ∃ x J, e = .returned x ∧ RepG J (fun _ => none) v x ∧ MemLe I J ∧ (∀ b o u, J b o = some u → I b o = some u ∨ w.heap.size ≤ b) ∧ ImmOk X J w' ∧ RowKit.Below w.heap.size w w'
theorem PureFnC.of {f : FuncId} {args : List PV} {v : GV} (en : Enters P f) (h : PureFnC P E W0 f args v) : PureFn P E W0 f args v :=
  ⟨h.1, fun X I w as h1 h2 h3 h4 h5 h6 h7 h8 => Meets.of en (h.2 X I w as h1 h2 h3 h4 h5 h6 h7 h8)⟩
theorem PureFnC.lib {f : FuncId} {args : List PV} {v : GV} (hk : v.keys = [])
    (h : ∀ {I : Mem} {w : World} {aa : Array Value}, (∀ b o u, I b o = some u → u.oneCell' = true → w.cell? ⟨b, o, none⟩ = some u) → Below W0.heap.size W0 w → aa.size = args.length → (∀ i, i < args.length → RepP I (args.getD i .any) (aa.getD i undef)) →
      Calls P f aa w fun e w' => ∃ x, e = .returned x ∧ RepG I (fun _ => none) v x ∧ Below w.heap.size w w') : PureFnC P E W0 f args v := by
  refine ⟨hk, fun X I w aa hE hW him hB hWB hb hl ha => ?_⟩
  refine (h (I := I) (fun b o u hu h0 => ?_) hb hl ha).mono ?_
  · obtain ⟨arr, T, fz, h1, h2, _⟩ := him.cell hu h0
    simp [World.cell?, h1, h2]
  · rintro e w' ⟨x, rfl, h1, h2⟩
    exact ⟨x, I, rfl, h1, MemLe.refl I, fun b o u hu => .inl hu, him.below h2, h2⟩
theorem PureOk.lib {f : FuncId} {ks : List AK} {c : List PV → Bool} {x : List PV → GV} {G : PureG} (hG : ∀ vs R K, G vs R K = bif fitArgs ks vs then (bif c vs then K (x vs) else none) else none) (en : Enters P f)
    (h : ∀ vs, fitArgs ks vs = true → c vs = true → PureFnC P E W0 f vs (x vs)) : PureOk P E W0 f G := by
  refine ⟨fun vs R K => ?_, fun vs v hv => ?_⟩
  · rw [hG, hG]
    cases fitArgs ks vs
    · rfl
    · cases c vs <;> rfl
  · rw [hG] at hv
    cases h1 : fitArgs ks vs
    · rw [h1] at hv; cases hv
    · cases h2 : c vs
      · rw [h1, h2] at hv; cases hv
      · rw [h1, h2] at hv
        simp only [cond_true, Option.some.injEq] at hv
        subst hv
        exact (h vs h1 h2).of en
theorem repStr {I : Mem} {s : Bytes} {x : Value} (h : RepP I (.str s) x) : x = .string ⟨s.toArray⟩ := by cases h; rfl
theorem repInt {I : Mem} {k : IntKind} {n : Int} {x : Value} (h : RepP I (.int k n) x) : x = .int k n := by cases h; rfl
theorem fit1 {k : AK} {vs : List PV} (h : fitArgs [k] vs = true) : ∃ a, vs = [a] ∧ fitA k a = true := by
  match vs, h with
  | [a], h => simp only [fitArgs, Bool.and_true] at h; exact ⟨a, rfl, h⟩
  | [], h => simp [fitArgs] at h
  | _ :: _ :: _, h => simp [fitArgs] at h
theorem fit2 {k l : AK} {vs : List PV} (h : fitArgs [k, l] vs = true) : ∃ a b, vs = [a, b] ∧ fitA k a = true ∧ fitA l b = true := by
  match vs, h with
  | [a, b], h => simp only [fitArgs, Bool.and_true, Bool.and_eq_true] at h; exact ⟨a, b, rfl, h.1, h.2⟩
  | [], h => simp [fitArgs] at h
  | [_], h => simp [fitArgs] at h
  | _ :: _ :: _ :: _, h => simp [fitArgs] at h
theorem fit3 {k l m : AK} {vs : List PV} (h : fitArgs [k, l, m] vs = true) : ∃ a b c, vs = [a, b, c] ∧ fitA k a = true ∧ fitA l b = true ∧ fitA m c = true := by
  match vs, h with
  | [a, b, c], h => simp only [fitArgs, Bool.and_true, Bool.and_eq_true] at h; exact ⟨a, b, c, rfl, h.1, h.2.1, h.2.2⟩
  | [], h => simp [fitArgs] at h
  | [_], h => simp [fitArgs] at h
  | [_, _], h => simp [fitArgs] at h
  | _ :: _ :: _ :: _ :: _, h => simp [fitArgs] at h
theorem fitStr {a : PV} (h : fitA .str a = true) : ∃ s, a = .str s := by
  cases a with
  | str s => exact ⟨s, rfl⟩
  | _ => simp [fitA, isStr] at h
theorem fitInt {k : IntKind} {a : PV} (h : fitA (.int k) a = true) : ∃ n, a = .int k n := by
  refine ⟨intOf a, isInt_inv h⟩
theorem fitSl {c : Nat} {a : PV} (h : fitA (.sl c) a = true) : ∃ es, a = .sl c es := ⟨slOf a, isSl_inv h⟩

theorem PureFnC.str1 {f : FuncId} {s : Bytes} {v : GV} (hk : v.keys = []) (h : ∀ w, Below W0.heap.size W0 w → Calls P f #[.string ⟨s.toArray⟩] w fun e w' => ∃ x, e = .returned x ∧ (∀ I, RepG I (fun _ => none) v x) ∧ Below w.heap.size w w') : PureFnC P E W0 f [.str s] v := by
  refine PureFnC.lib hk fun {I w aa} _ hb hl ha => ?_
  have h0 := repStr (ha 0 (by simp))
  have : aa = #[.string ⟨s.toArray⟩] := by
    apply Array.ext
    · simpa using hl
    · intro i h1 h2
      have : i = 0 := by simp at h2; omega
      subst this
      simpa [Array.getD, h1] using h0
  rw [this]
  exact (h w hb).mono fun e w' ⟨x, h1, h2, h3⟩ => ⟨x, h1, h2 I, h3⟩
theorem PureFnC.str2 {f : FuncId} {s t : Bytes} {v : GV} (hk : v.keys = []) (h : ∀ w, Below W0.heap.size W0 w → Calls P f #[.string ⟨s.toArray⟩, .string ⟨t.toArray⟩] w fun e w' => ∃ x, e = .returned x ∧ (∀ I, RepG I (fun _ => none) v x) ∧ Below w.heap.size w w') : PureFnC P E W0 f [.str s, .str t] v := by
  refine PureFnC.lib hk fun {I w aa} _ hb hl ha => ?_
  have h0 := repStr (ha 0 (by simp))
  have h1 := repStr (ha 1 (by simp))
  have : aa = #[.string ⟨s.toArray⟩, .string ⟨t.toArray⟩] := by
    apply Array.ext
    · simpa using hl
    · intro i g1 g2
      match i, g2 with
      | 0, _ => simpa [Array.getD, g1] using h0
      | 1, _ => simpa [Array.getD, g1] using h1
      | i + 2, g => exact absurd g (by simp)
  rw [this]
  exact (h w hb).mono fun e w' ⟨x, h1, h2, h3⟩ => ⟨x, h1, h2 I, h3⟩
theorem PureFnC.str3 {f : FuncId} {s t u : Bytes} {v : GV} (hk : v.keys = []) (h : ∀ w, Below W0.heap.size W0 w → Calls P f #[.string ⟨s.toArray⟩, .string ⟨t.toArray⟩, .string ⟨u.toArray⟩] w fun e w' => ∃ x, e = .returned x ∧ (∀ I, RepG I (fun _ => none) v x) ∧ Below w.heap.size w w') : PureFnC P E W0 f [.str s, .str t, .str u] v := by
  refine PureFnC.lib hk fun {I w aa} _ hb hl ha => ?_
  have h0 := repStr (ha 0 (by simp))
  have h1 := repStr (ha 1 (by simp))
  have h2 := repStr (ha 2 (by simp))
  have : aa = #[.string ⟨s.toArray⟩, .string ⟨t.toArray⟩, .string ⟨u.toArray⟩] := by
    apply Array.ext
    · simpa using hl
    · intro i g1 g2
      match i, g2 with
      | 0, _ => simpa [Array.getD, g1] using h0
      | 1, _ => simpa [Array.getD, g1] using h1
      | 2, _ => simpa [Array.getD, g1] using h2
      | i + 3, g => exact absurd g (by simp)
  rw [this]
  exact (h w hb).mono fun e w' ⟨x, h1, h2, h3⟩ => ⟨x, h1, h2 I, h3⟩
theorem PureFnC.int1 {f : FuncId} {k : IntKind} {n : Int} {v : GV} (hk : v.keys = []) (h : ∀ w, Below W0.heap.size W0 w → Calls P f #[.int k n] w fun e w' => ∃ x, e = .returned x ∧ (∀ I, RepG I (fun _ => none) v x) ∧ Below w.heap.size w w') : PureFnC P E W0 f [.int k n] v := by
  refine PureFnC.lib hk fun {I w aa} _ hb hl ha => ?_
  have h0 := repInt (ha 0 (by simp))
  have : aa = #[.int k n] := by
    apply Array.ext
    · simpa using hl
    · intro i h1 h2
      have : i = 0 := by simp at h2; omega
      subst this
      simpa [Array.getD, h1] using h0
  rw [this]
  exact (h w hb).mono fun e w' ⟨x, h1, h2, h3⟩ => ⟨x, h1, h2 I, h3⟩
theorem bsize (s : Bytes) : (ByteArray.mk s.toArray).size = s.length := by simp [ByteArray.size]
theorem repTup {I : Mem} {vs : List PV} {xs : List Value} (hl : vs.length = xs.length) (h : ∀ i, i < vs.length → RepP I (vs.getD i .any) (xs.getD i undef)) : RepG I (fun _ => none) (.tup (vs.map .p)) (.tuple xs.toArray) := by
  refine ⟨xs.toArray, rfl, by simp [hl], fun i u hu => ?_⟩
  rw [List.getElem?_map] at hu
  obtain ⟨y, hy, rfl⟩ := Option.map_eq_some_iff.1 hu
  have hi : i < vs.length := (List.getElem?_eq_some_iff.1 hy).1
  have := h i hi
  rw [List.getD_eq_getElem?_getD, hy] at this
  rw [agetD]
  exact this
theorem repTup2 {I : Mem} {a b : PV} {x y : Value} (ha : RepP I a x) (hb : RepP I b y) : RepG I (fun _ => none) (.tup [.p a, .p b]) (.tuple #[x, y]) :=
  repTup (vs := [a, b]) (xs := [x, y]) rfl fun i hi => match i, hi with
    | 0, _ => ha
    | 1, _ => hb
    | i + 2, h => absurd h (by simp)
theorem repTup3 {I : Mem} {a b c : PV} {x y z : Value} (ha : RepP I a x) (hb : RepP I b y) (hc : RepP I c z) : RepG I (fun _ => none) (.tup [.p a, .p b, .p c]) (.tuple #[x, y, z]) :=
  repTup (vs := [a, b, c]) (xs := [x, y, z]) rfl fun i hi => match i, hi with
    | 0, _ => ha
    | 1, _ => hb
    | 2, _ => hc
    | i + 3, h => absurd h (by simp)

/-! Strings. -/
theorem lib_cut {f : FuncId} (en : Enters P f) {g : Nat} {m : Int} (hm : W0.cell? ⟨g, 0, none⟩ = some (.int .i64 m))
    (hc : ∀ (s sep : ByteArray) (m : Int) (w : World), s.size < 4294967281 → w.cell? ⟨g, 0, none⟩ = some (.int .i64 m) → Calls P f #[.string s, .string sep] w fun e w' =>
      e = .returned (.tuple #[.string ⟨(Lib.cut s.data.toList sep.data.toList).1.toArray⟩, .string ⟨(Lib.cut s.data.toList sep.data.toList).2.1.toArray⟩, .bool (Lib.cut s.data.toList sep.data.toList).2.2]) ∧ ∃ n, w' = w.drewN n) :
    PureOk P E W0 f (argG [.str, .str] fun vs R K => lCut (strOf (vs.getD 0 .any)) (strOf (vs.getD 1 .any)) (fun r1 r2 r3 => K (GV.tup [CV.p (PV.str r1), CV.p (PV.str r2), CV.p (PV.bool r3)]))) := by
  refine PureOk.lib (ks := [.str, .str]) (c := fun vs => decide ((strOf (vs.getD 0 .any)).length < 4294967281)) (x := fun vs => GV.tup [CV.p (PV.str (Lib.cut (strOf (vs.getD 0 .any)) (strOf (vs.getD 1 .any))).1), CV.p (PV.str (Lib.cut (strOf (vs.getD 0 .any)) (strOf (vs.getD 1 .any))).2.1), CV.p (PV.bool (Lib.cut (strOf (vs.getD 0 .any)) (strOf (vs.getD 1 .any))).2.2)]) (fun vs R K => rfl) en fun vs hv hcd => ?_
  obtain ⟨a, b, rfl, h1, h2⟩ := fit2 hv
  obtain ⟨s, rfl⟩ := fitStr h1
  obtain ⟨t, rfl⟩ := fitStr h2
  have hcd : s.length < 4294967281 := of_decide_eq_true hcd
  refine PureFnC.str2 rfl fun w hb => ?_
  refine (hc ⟨s.toArray⟩ ⟨t.toArray⟩ m w (by rw [bsize]; exact hcd) (cell_below hb hm)).mono ?_
  rintro e w' ⟨rfl, n, rfl⟩
  exact ⟨_, rfl, fun I => repTup3 (.str _) (.str _) (.bool _), below_drewN0 w n⟩
theorem lib_prefix {f : FuncId} (en : Enters P f) (hc : ∀ (s p : ByteArray) (w : World), Calls P f #[.string s, .string p] w fun e w' => e = .returned (.bool (Lib.hasPrefix s.data.toList p.data.toList)) ∧ w' = w) :
    PureOk P E W0 f (argG [.str, .str] fun vs R K => lHasPrefix (strOf (vs.getD 0 .any)) (strOf (vs.getD 1 .any)) (fun r1 => K (GV.pv (PV.bool r1)))) := by
  refine PureOk.lib (ks := [.str, .str]) (c := fun vs => true) (x := fun vs => GV.pv (PV.bool (Lib.hasPrefix (strOf (vs.getD 0 .any)) (strOf (vs.getD 1 .any))))) (fun vs R K => rfl) en fun vs hv hcd => ?_
  obtain ⟨a, b, rfl, h1, h2⟩ := fit2 hv
  obtain ⟨s, rfl⟩ := fitStr h1
  obtain ⟨t, rfl⟩ := fitStr h2
  refine PureFnC.str2 rfl fun w hb => (hc ⟨s.toArray⟩ ⟨t.toArray⟩ w).mono ?_
  rintro e w' ⟨rfl, rfl⟩
  exact ⟨_, rfl, fun I => .bool _, Below.refl _ _⟩
theorem lib_cutPrefix {f : FuncId} (en : Enters P f) (hc : ∀ (s p : ByteArray) (w : World), Calls P f #[.string s, .string p] w fun e w' => e = .returned (.tuple #[.string ⟨(Lib.trimPrefix s.data.toList p.data.toList).toArray⟩, .bool (Lib.hasPrefix s.data.toList p.data.toList)]) ∧ w' = w) :
    PureOk P E W0 f (argG [.str, .str] fun vs R K => lCutPrefix (strOf (vs.getD 0 .any)) (strOf (vs.getD 1 .any)) (fun r1 r2 => K (GV.tup [CV.p (PV.str r1), CV.p (PV.bool r2)]))) := by
  refine PureOk.lib (ks := [.str, .str]) (c := fun vs => true) (x := fun vs => GV.tup [CV.p (PV.str (Lib.trimPrefix (strOf (vs.getD 0 .any)) (strOf (vs.getD 1 .any)))), CV.p (PV.bool (Lib.hasPrefix (strOf (vs.getD 0 .any)) (strOf (vs.getD 1 .any))))]) (fun vs R K => rfl) en fun vs hv hcd => ?_
  obtain ⟨a, b, rfl, h1, h2⟩ := fit2 hv
  obtain ⟨s, rfl⟩ := fitStr h1
  obtain ⟨t, rfl⟩ := fitStr h2
  refine PureFnC.str2 rfl fun w hb => (hc ⟨s.toArray⟩ ⟨t.toArray⟩ w).mono ?_
  rintro e w' ⟨rfl, rfl⟩
  exact ⟨_, rfl, fun I => repTup2 (.str _) (.bool _), Below.refl _ _⟩
theorem ascii_at {cs : Bytes} (h : isAscii cs = true) : ∀ (j : Nat) b, (ByteArray.mk cs.toArray).data.toList[j]? = some b → b.toNat < 128 := by
  intro j b hj
  have := (List.all_eq_true.1 h) b (List.mem_of_getElem? hj)
  exact of_decide_eq_true this
theorem lib_trim {f : FuncId} (en : Enters P f) (hc : ∀ (s cs : ByteArray) (w : World), s.size ≤ 9223372036854775807 → cs.size < 4294967281 → (∀ (j : Nat) b, cs.data.toList[j]? = some b → b.toNat < 128) →
      Calls P f #[.string s, .string cs] w fun e w' => e = .returned (.string ⟨(Lib.trimS s.data.toList cs.data.toList).toArray⟩) ∧ Below w.heap.size w w') :
    PureOk P E W0 f (argG [.str, .str] fun vs R K => lTrim (strOf (vs.getD 0 .any)) (strOf (vs.getD 1 .any)) (fun r1 => K (GV.pv (PV.str r1)))) := by
  refine PureOk.lib (ks := [.str, .str]) (c := fun vs => decide ((strOf (vs.getD 0 .any)).length ≤ LIM) && (decide ((strOf (vs.getD 1 .any)).length < 4294967281) && isAscii (strOf (vs.getD 1 .any)))) (x := fun vs => GV.pv (PV.str (Lib.trimS (strOf (vs.getD 0 .any)) (strOf (vs.getD 1 .any))))) (fun vs R K => rfl) en fun vs hv hcd => ?_
  obtain ⟨a, b, rfl, h1, h2⟩ := fit2 hv
  obtain ⟨s, rfl⟩ := fitStr h1
  obtain ⟨t, rfl⟩ := fitStr h2
  simp only [Bool.and_eq_true, decide_eq_true_eq] at hcd
  obtain ⟨c1, c2, c3⟩ := hcd
  have c1 : s.length ≤ 549755813888 := c1
  have c2 : t.length < 4294967281 := c2
  refine PureFnC.str2 rfl fun w hb => (hc ⟨s.toArray⟩ ⟨t.toArray⟩ w (by rw [bsize]; omega) (by rw [bsize]; omega) (ascii_at c3)).mono ?_
  rintro e w' ⟨rfl, h⟩
  exact ⟨_, rfl, fun I => .str _, h⟩
theorem lib_trimLeft {f : FuncId} (en : Enters P f) (hc : ∀ (s cs : ByteArray) (w : World), cs.size < 4294967281 → (∀ (j : Nat) b, cs.data.toList[j]? = some b → b.toNat < 128) →
      Calls P f #[.string s, .string cs] w fun e w' => e = .returned (.string ⟨(Lib.trimLeftS s.data.toList cs.data.toList).toArray⟩) ∧ Below w.heap.size w w') :
    PureOk P E W0 f (argG [.str, .str] fun vs R K => lTrimLeft (strOf (vs.getD 0 .any)) (strOf (vs.getD 1 .any)) (fun r1 => K (GV.pv (PV.str r1)))) := by
  refine PureOk.lib (ks := [.str, .str]) (c := fun vs => decide ((strOf (vs.getD 0 .any)).length ≤ LIM) && (decide ((strOf (vs.getD 1 .any)).length < 4294967281) && isAscii (strOf (vs.getD 1 .any)))) (x := fun vs => GV.pv (PV.str (Lib.trimLeftS (strOf (vs.getD 0 .any)) (strOf (vs.getD 1 .any))))) (fun vs R K => rfl) en fun vs hv hcd => ?_
  obtain ⟨a, b, rfl, h1, h2⟩ := fit2 hv
  obtain ⟨s, rfl⟩ := fitStr h1
  obtain ⟨t, rfl⟩ := fitStr h2
  simp only [Bool.and_eq_true, decide_eq_true_eq] at hcd
  obtain ⟨c1, c2, c3⟩ := hcd
  have c2 : t.length < 4294967281 := c2
  refine PureFnC.str2 rfl fun w hb => (hc ⟨s.toArray⟩ ⟨t.toArray⟩ w (by rw [bsize]; omega) (ascii_at c3)).mono ?_
  rintro e w' ⟨rfl, h⟩
  exact ⟨_, rfl, fun I => .str _, h⟩
theorem lib_replaceAll {f : FuncId} (en : Enters P f) {g : Nat} {m : Int} (hm : W0.cell? ⟨g, 0, none⟩ = some (.int .i64 m))
    (hc : ∀ (s old new : ByteArray) (m : Int) (w : World), s.size < 4294967281 → w.cell? ⟨g, 0, none⟩ = some (.int .i64 m) → 1 ≤ old.size → s.size + Lib.count s.data.toList old.data.toList * new.size ≤ 140737488355328 →
      Calls P f #[.string s, .string old, .string new] w fun e w' => e = .returned (.string ⟨(Lib.replaceAll s.data.toList old.data.toList new.data.toList).toArray⟩) ∧ Below w.heap.size w w') :
    PureOk P E W0 f (argG [.str, .str, .str] fun vs R K => lReplaceAll (strOf (vs.getD 0 .any)) (strOf (vs.getD 1 .any)) (strOf (vs.getD 2 .any)) (fun r1 => K (GV.pv (PV.str r1)))) := by
  refine PureOk.lib (ks := [.str, .str, .str]) (c := fun vs => decide ((strOf (vs.getD 0 .any)).length < 4294967281) && (decide (1 ≤ (strOf (vs.getD 1 .any)).length) && decide ((strOf (vs.getD 0 .any)).length + Lib.count (strOf (vs.getD 0 .any)) (strOf (vs.getD 1 .any)) * (strOf (vs.getD 2 .any)).length ≤ BLIM)))
    (x := fun vs => GV.pv (PV.str (Lib.replaceAll (strOf (vs.getD 0 .any)) (strOf (vs.getD 1 .any)) (strOf (vs.getD 2 .any))))) (fun vs R K => rfl) en fun vs hv hcd => ?_
  obtain ⟨a, b, c, rfl, h1, h2, h3⟩ := fit3 hv
  obtain ⟨s, rfl⟩ := fitStr h1
  obtain ⟨t, rfl⟩ := fitStr h2
  obtain ⟨u, rfl⟩ := fitStr h3
  simp only [Bool.and_eq_true, decide_eq_true_eq] at hcd
  obtain ⟨c1, c2, c3⟩ := hcd
  have c1 : s.length < 4294967281 := c1
  have c2 : 1 ≤ t.length := c2
  have c3 : s.length + Lib.count s t * u.length ≤ 140737488355328 := c3
  refine PureFnC.str3 rfl fun w hb => (hc ⟨s.toArray⟩ ⟨t.toArray⟩ ⟨u.toArray⟩ m w (by rw [bsize]; exact c1) (cell_below hb hm) (by rw [bsize]; exact c2) (by rw [bsize, bsize]; exact c3)).mono ?_
  rintro e w' ⟨rfl, h⟩
  exact ⟨_, rfl, fun I => .str _, h⟩
theorem lib_valid {f : FuncId} (en : Enters P f) {T : World → Prop} (hT : ∀ w, Below W0.heap.size W0 w → T w)
    (hc : ∀ (s : ByteArray) (w : World), s.size ≤ 9223372036854775807 → T w → Calls P f #[.string s] w fun e w' => e = .returned (.bool (Lib.validD s.data.toList)) ∧ Below w.heap.size w w') :
    PureOk P E W0 f (argG [.str] fun vs R K => lValid (strOf (vs.getD 0 .any)) (fun r1 => K (GV.pv (PV.bool r1)))) := by
  refine PureOk.lib (ks := [.str]) (c := fun vs => decide ((strOf (vs.getD 0 .any)).length ≤ LIM)) (x := fun vs => GV.pv (PV.bool (Lib.validD (strOf (vs.getD 0 .any))))) (fun vs R K => rfl) en fun vs hv hcd => ?_
  obtain ⟨a, rfl, h1⟩ := fit1 hv
  obtain ⟨s, rfl⟩ := fitStr h1
  have c1 : s.length ≤ 549755813888 := of_decide_eq_true hcd
  refine PureFnC.str1 rfl fun w hb => (hc ⟨s.toArray⟩ w (by rw [bsize]; omega) (hT w hb)).mono ?_
  rintro e w' ⟨rfl, h⟩
  exact ⟨_, rfl, fun I => .bool _, h⟩
theorem lib_runeCount {f : FuncId} (en : Enters P f) (hc : ∀ (s : ByteArray) (w : World), s.size < 9223372036854775807 → Calls P f #[.string s] w fun e w' => e = .returned (.int .i64 (Lib.runeCount s)) ∧ ∃ pos, w' = w.iter s pos) :
    PureOk P E W0 f (argG [.str] fun vs R K => lRuneCount (strOf (vs.getD 0 .any)) (fun r1 => K (GV.pv (PV.int .i64 r1)))) := by
  refine PureOk.lib (ks := [.str]) (c := fun vs => decide ((strOf (vs.getD 0 .any)).length ≤ LIM)) (x := fun vs => GV.pv (PV.int .i64 ((Lib.runeCountL (strOf (vs.getD 0 .any)) : Nat) : Int))) (fun vs R K => rfl) en fun vs hv hcd => ?_
  obtain ⟨a, rfl, h1⟩ := fit1 hv
  obtain ⟨s, rfl⟩ := fitStr h1
  have c1 : s.length ≤ 549755813888 := of_decide_eq_true hcd
  refine PureFnC.str1 rfl fun w hb => (hc ⟨s.toArray⟩ w (by rw [bsize]; omega)).mono ?_
  rintro e w' ⟨rfl, pos, rfl⟩
  exact ⟨_, rfl, fun I => .int _ _, below_push w _ rfl rfl rfl _ rfl⟩
theorem lib_itoa {f : FuncId} (en : Enters P f) {T : World → Prop} (hT : ∀ w, Below W0.heap.size W0 w → T w)
    (hc : ∀ (n : Int) (w : World), -9223372036854775808 ≤ n → n ≤ 9223372036854775807 → T w → Calls P f #[.int .i64 n] w fun e w' => e = .returned (.string ⟨(Lib.itoa n).toArray⟩) ∧ Below w.heap.size w w') :
    PureOk P E W0 f (argG [.int .i64] fun vs R K => lItoa (intOf (vs.getD 0 .any)) (fun r1 => K (GV.pv (PV.str r1)))) := by
  refine PureOk.lib (ks := [.int .i64]) (c := fun vs => decide (-9223372036854775808 ≤ intOf (vs.getD 0 .any)) && decide (intOf (vs.getD 0 .any) ≤ 9223372036854775807)) (x := fun vs => GV.pv (PV.str (Lib.itoa (intOf (vs.getD 0 .any))))) (fun vs R K => rfl) en fun vs hv hcd => ?_
  obtain ⟨a, rfl, h1⟩ := fit1 hv
  obtain ⟨n, rfl⟩ := fitInt h1
  simp only [Bool.and_eq_true, decide_eq_true_eq] at hcd
  refine PureFnC.int1 rfl fun w hb => (hc n w hcd.1 hcd.2 (hT w hb)).mono ?_
  rintro e w' ⟨rfl, h⟩
  exact ⟨_, rfl, fun I => .str _, h⟩
theorem lib_atoi {f : FuncId} (en : Enters P f)
    (ho : ∀ (s : ByteArray) (v : Int) (w : World), s.size ≤ 9223372036854775806 → Lib.atoiAll s.data.toList = .ok v → Calls P f #[.string s] w fun e w' => e = .returned (.tuple #[.int .i64 v, .nilIface]) ∧ Below w.heap.size w w')
    (hs : ∀ (s : ByteArray) (w : World), Below W0.heap.size W0 w → s.size ≤ 281474976710656 → (Lib.atoiAll s.data.toList ≠ .range ∧ ∀ v, Lib.atoiAll s.data.toList ≠ .ok v) → Calls P f #[.string s] w fun e w' => (∃ t v, e = .returned (.tuple #[.int .i64 0, .iface t v])) ∧ Below w.heap.size w w')
    (hr : ∀ (s : ByteArray) (w : World), Below W0.heap.size W0 w → s.size ≤ 281474976710656 → Lib.atoiAll s.data.toList = .range → Calls P f #[.string s] w fun e w' => (∃ t v, e = .returned (.tuple #[.int .i64 (Lib.atoiSat s.data.toList), .iface t v])) ∧ Below w.heap.size w w') :
    PureOk P E W0 f (argG [.str] fun vs R K => lAtoi (strOf (vs.getD 0 .any)) (fun r1 r2 => K (GV.tup [CV.p (PV.int .i64 r1), CV.p r2]))) := by
  refine PureOk.lib (ks := [.str]) (c := fun vs => decide ((strOf (vs.getD 0 .any)).length ≤ 281474976710656)) (x := fun vs => GV.tup [CV.p (PV.int .i64 (atoiVal (strOf (vs.getD 0 .any)))), CV.p (bif atoiOk (strOf (vs.getD 0 .any)) then .nilif else .someif)]) (fun vs R K => rfl) en fun vs hv hcd => ?_
  obtain ⟨a, rfl, h1⟩ := fit1 hv
  obtain ⟨s, rfl⟩ := fitStr h1
  have c1 : s.length ≤ 281474976710656 := of_decide_eq_true hcd
  have hk : (GV.tup [CV.p (PV.int .i64 (atoiVal s)), CV.p (bif atoiOk s then .nilif else .someif)]).keys = [] := by simp [GV.keys, CV.keys]
  refine PureFnC.str1 hk fun w hb => ?_
  show Calls P f _ w fun e w' => ∃ x, e = .returned x ∧ (∀ I, RepG I (fun _ => none) (GV.tup [CV.p (PV.int .i64 (atoiVal s)), CV.p (bif atoiOk s then .nilif else .someif)]) x) ∧ Below w.heap.size w w'
  unfold atoiVal atoiOk
  cases hA : Lib.atoiAll s with
  | ok v =>
    refine (ho ⟨s.toArray⟩ v w (by rw [bsize]; omega) hA).mono ?_
    rintro e w' ⟨rfl, h⟩
    exact ⟨_, rfl, fun I => repTup2 (.int _ _) .nilif, h⟩
  | range =>
    refine (hr ⟨s.toArray⟩ w hb (by rw [bsize]; omega) hA).mono ?_
    rintro e w' ⟨⟨t, v, rfl⟩, h⟩
    exact ⟨_, rfl, fun I => repTup2 (.int _ _) (.someif _ _), h⟩
  | _ =>
    refine (hs ⟨s.toArray⟩ w hb (by rw [bsize]; omega) ⟨fun e => (by cases hA.symm.trans e), fun v e => (by cases hA.symm.trans e)⟩).mono ?_
    rintro e w' ⟨⟨t, v, rfl⟩, h⟩
    exact ⟨_, rfl, fun I => repTup2 (.int _ _) (.someif _ _), h⟩
theorem lib_join {f : FuncId} (en : Enters P f) (h0 : ∀ (a : Option Addr) (c : Nat) (sep : ByteArray) (w : World), Calls P f #[.slice a 0 c, .string sep] w fun e w' => e = .returned (.string ⟨#[]⟩) ∧ w' = w)
    (hc : ∀ (bk o c : Nat) (xs : List ByteArray) (sep : ByteArray) (w : World), (∀ (j : Nat) x, xs[j]? = some x → w.cell? ⟨bk, o + j, none⟩ = some (.string x)) → bk < w.heap.size → xs.length ≤ 140737488355328 → xs.length ≤ c → (Lib.join (xs.map (·.data.toList)) sep.data.toList).length ≤ 140737488355328 →
      Calls P f #[.slice (some ⟨bk, o, none⟩) xs.length c, .string sep] w fun e w' => e = .returned (.string ⟨(Lib.join (xs.map (·.data.toList)) sep.data.toList).toArray⟩) ∧ Below w.heap.size w w') :
    PureOk P E W0 f (argG [.sl 1, .str] fun vs R K => lJoin (slOf (vs.getD 0 .any)) (strOf (vs.getD 1 .any)) (fun r1 => K (GV.pv (PV.str r1)))) := by
  refine PureOk.lib (ks := [.sl 1, .str]) (c := fun vs => (slOf (vs.getD 0 .any)).all isStr && (decide ((slOf (vs.getD 0 .any)).length ≤ BLIM) && decide ((Lib.join ((slOf (vs.getD 0 .any)).map strOf) (strOf (vs.getD 1 .any))).length ≤ BLIM)))
    (x := fun vs => GV.pv (PV.str (Lib.join ((slOf (vs.getD 0 .any)).map strOf) (strOf (vs.getD 1 .any))))) (fun vs R K => rfl) en fun vs hv hcd => ?_
  obtain ⟨a, b, rfl, h1, h2⟩ := fit2 hv
  obtain ⟨es, rfl⟩ := fitSl h1
  obtain ⟨t, rfl⟩ := fitStr h2
  simp only [Bool.and_eq_true, decide_eq_true_eq] at hcd
  obtain ⟨c1, c2, c3⟩ := hcd
  have c1 : es.all isStr = true := c1
  have c2 : es.length ≤ 140737488355328 := c2
  have c3 : (Lib.join (es.map strOf) t).length ≤ 140737488355328 := c3
  refine PureFnC.lib rfl fun {I w aa} hI hb hl ha => ?_
  have g0 := ha 0 (by simp)
  have g1 := repStr (ha 1 (by simp))
  have has : aa = #[aa.getD 0 undef, .string ⟨t.toArray⟩] := by
    apply Array.ext
    · simpa using hl
    · intro i q1 q2
      match i, q2 with
      | 0, _ => simp [Array.getD, q1]
      | 1, _ => simpa [Array.getD, q1] using g1
      | i + 2, g => exact absurd g (by simp)
  have g0 : RepP I (.sl 1 es) (aa.getD 0 undef) := g0
  generalize aa.getD 0 undef = y at g0 has
  subst has
  cases g0 with
  | nilsl _ a =>
    refine (h0 a 0 ⟨t.toArray⟩ w).mono ?_
    rintro e w' ⟨rfl, rfl⟩
    exact ⟨_, rfl, .str _, Below.refl _ _⟩
  | sl _ _ bk o cap ff hcap hcc hIr hf =>
    by_cases hne : es = []
    · subst hne
      refine (h0 (some ⟨bk, o, none⟩) cap ⟨t.toArray⟩ w).mono ?_
      rintro e w' ⟨rfl, rfl⟩
      exact ⟨_, rfl, .str _, Below.refl _ _⟩
    · have hpos : 0 < es.length := List.length_pos_iff.2 hne
      have hstr : ∀ j, j < es.length → ∃ s, es[j]? = some (.str s) ∧ ff j 0 = .string ⟨s.toArray⟩ := by
        intro j hj
        have := (List.all_eq_true.1 c1) es[j] (List.getElem_mem hj)
        have e1 : es[j] = .str (strOf es[j]) := by cases hh : es[j] <;> rw [hh] at this <;> first | rfl | (simp [isStr] at this)
        have e2 := hf j 0 hj (by omega)
        rw [getD_lt hj, e1] at e2
        exact ⟨strOf es[j], by rw [List.getElem?_eq_getElem hj]; exact congrArg some e1, repStr e2⟩
      have hcell : ∀ j, j < es.length → w.cell? ⟨bk, o + j, none⟩ = some (ff j 0) := by
        intro j hj
        have := hI _ _ _ (hIr.hI j 0 hj (by omega)) (hIr.h1 j 0 hj (by omega))
        simpa using this
      have hbk : bk < w.heap.size := by
        have := hcell 0 hpos
        unfold World.cell? at this
        cases hh : w.heap[bk]? with
        | none => simp [hh] at this
        | some o => exact (Array.getElem?_eq_some_iff.1 hh).1
      have hmap : (es.map fun x => (⟨(strOf x).toArray⟩ : ByteArray)).map (·.data.toList) = es.map strOf := by simp [List.map_map, Function.comp_def]
      have := hc bk o cap (es.map fun x => ⟨(strOf x).toArray⟩) ⟨t.toArray⟩ w (fun j x hx => ?_) hbk (by simpa using c2) (by simpa using hcap) (by rw [hmap]; exact c3)
      · rw [hmap, List.length_map] at this
        refine this.mono ?_
        rintro e w' ⟨rfl, h⟩
        exact ⟨_, rfl, .str _, h⟩
      · rw [List.getElem?_map] at hx
        obtain ⟨y, hy, rfl⟩ := Option.map_eq_some_iff.1 hx
        have hj := (List.getElem?_eq_some_iff.1 hy).1
        obtain ⟨s, k1, k2⟩ := hstr j hj
        rw [k1] at hy
        injection hy with hy
        rw [hcell j hj, k2, ← hy]
        rfl

/-! Builders. -/
theorem HeapGOk.lib {f : FuncId} {n : Nat} {sh : Shape} {c : List PV → Bool} {x : List PV → GV} {H : List PV → List (Nat × Ob)} {F : List PV → (R : Type) → (GV → List (Nat × Ob) → Option R) → Option R}
    (hF : ∀ vs R K, F vs R K = bif c vs then K (x vs) (H vs) else none) (en : Enters P f) (h : ∀ vs, c vs = true → HeapFn P E tB W0 f (sh.asOf n vs) (sh.hOf vs) (x vs) (H vs)) : HeapGOk P E tB W0 f (argH n sh F) := by
  refine ⟨fun aa H => ?_, fun aa H v H' hv => ?_⟩
  · unfold argH
    cases sh.fitsH n aa H
    · intro R K; rfl
    · intro R K
      simp only [cond_true]
      rw [hF, hF]
      cases c _ <;> rfl
  · unfold argH at hv
    cases hfit : sh.fitsH n aa H
    · rw [hfit] at hv; cases hv
    · simp only [hfit, cond_true] at hv
      rw [hF] at hv
      cases hc : c (sh.pick ⟨args0 0 aa, H⟩)
      · rw [hc] at hv; cases hv
      · rw [hc] at hv
        simp only [cond_true, Option.some.injEq, Prod.mk.injEq] at hv
        rw [← hv.1, ← hv.2]
        exact HeapFn.told hfit (h _ hc)
/-- A builder's method: what it finds, what it leaves. -/
theorem HeapFn.bld {f : FuncId} {args : List GV} {s s' : Bytes} {v : GV} {vals : List Value} {x : Value} (en : Enters P f) (hv : ∀ I μ, RepG I μ v x) (ha : ∀ I μ (aa : Array Value), aa.size = args.length + 1 → (∀ i, i < args.length → RepG I μ (args.getD i .any) (aa.getD (i + 1) undef)) → aa.toList.drop 1 = vals)
    (hc : ∀ B b w, Lib.IsBuilderF tB E.tb B b (Lib.byteCells s) w → B ≤ w.heap.size → Calls P f (#[.pointer (some ⟨b, 0, none⟩)] ++ vals.toArray) w fun e w' => e = .returned x ∧ (Lib.IsBuilderF tB E.tb B b (Lib.byteCells s') w' ∧ Below B w w' ∧ Lib.OthersKept E.tb (some b) w w')) :
    HeapFn P E tB W0 f (.c (.ptr 1000 0) :: args) [(1000, .bld s)] v [(1000, .bld s')] := by
  intro X I μ β w aa hX hT hW hS hbb h1 hdf hcx hro him hB hbel hheap hl hargs
  subst hX hT hW
  obtain ⟨b, base, k0, k1, k2, k3, k4⟩ := hheap.ok 1000 (.bld s) (by simp [look])
  have hb : X.hb = true := by rw [hbb]; rfl
  have hsz : base ≤ w.heap.size ∨ True := .inr trivial
  have h0 := hargs 0 (by simp)
  have e0 : aa.getD 0 undef = .pointer (some ⟨b, 0, none⟩) := by
    have h0' : PtrAt μ 1000 0 (aa.getD 0 undef) := h0
    generalize aa.getD 0 undef = y at h0' ⊢
    rcases h0' with ⟨b', hb', e⟩ | ⟨b', hb' | hb', e0, e⟩
    · rw [k1] at hb'; cases hb'
    · obtain ⟨base', hb'⟩ := hb'
      rw [k1] at hb'; injection hb' with hb'; injection hb' with hb' _; subst hb'; exact e
    · rw [k1] at hb'; cases hb'
  have has : aa = #[.pointer (some ⟨b, 0, none⟩)] ++ vals.toArray := by
    have := ha I μ aa (by simpa using hl) (fun i hi => by simpa using hargs (i + 1) (by simp; omega))
    rw [← this]
    have hlen : 0 < aa.size := by rw [hl]; simp
    apply Array.ext'
    simp only [Array.toList_append]
    obtain ⟨l⟩ := aa
    cases l with
    | nil => simp at hlen
    | cons y l =>
      have e1 : y = .pointer (some ⟨b, 0, none⟩) := by rw [← e0]; simp [Array.getD]
      subst e1
      simp
  rw [has]
  refine Meets.of en ?_
  by_cases hbw : base ≤ w.heap.size
  · refine (hc base b w k4 hbw).mono ?_
    rintro e w' ⟨rfl, q1, q2, q3⟩
    have hSb : X.S b := by rw [hS]; exact ⟨1000, _, by simp [look]; rfl, by rw [k0]; simp⟩
    have hnb : ∀ p, I b p = none := hheap.imm 1000 (.bld s) (by simp [look]) b (by rw [k0]; simp)
    refine ⟨x, I, μ, rfl, hv I μ, NewI.refl X I, ⟨hro, Keep.refl μ⟩, ?_, ⟨β, ?_, ?_, ?_, ?_, ?_, ?_⟩, ⟨q2.os, q2.tape, q2.output, q2.size, ?_⟩⟩
    · intro b' o u hu
      rcases him b' o u hu with ⟨m0, arr, T, fz, m1, m2, m3⟩ | ⟨m0, es, clock, m1, m2⟩
      · refine .inl ⟨m0, arr, T, fz, ?_, m2, m3⟩
        rcases m3 with m3 | m3
        · rw [q2.block b' (by omega)]; exact m1
        · refine q3 b' _ m1 (fun e => ?_) (fun c fz' e => m3 (by injection e))
          injection e with e
          subst e
          rw [hnb] at hu; cases hu
      · refine .inr ⟨m0, es, clock, q3 b' _ m1 (fun e => ?_) (fun c fz' e => by cases e), m2⟩
        injection e with e
        subst e
        rw [hnb] at hu; cases hu
    · intro r o ho
      simp only [look_cons] at ho
      by_cases e : r = 1000
      · rw [if_pos e] at ho
        injection ho with ho
        subst e; subst ho
        exact ⟨b, base, k0, k1, k2, k3, q1⟩
      · rw [if_neg e] at ho; simp [look] at ho
    · intro r o ho
      simp only [look_cons] at ho
      by_cases e : r = 1000
      · rw [e, k0]; simp
      · rw [if_neg e] at ho; simp [look] at ho
    · intro r r' o o' ho ho' hne
      simp only [look_cons] at ho ho'
      by_cases e : r = 1000
      · by_cases e' : r' = 1000
        · exact absurd (e.trans e'.symm) hne
        · rw [if_neg e'] at ho'; simp [look] at ho'
      · rw [if_neg e] at ho; simp [look] at ho
    · intro r o ho b' hb'
      simp only [look_cons] at ho
      by_cases e : r = 1000
      · exact hheap.imm r (.bld s) (by simp [look, e]) b' hb'
      · rw [if_neg e] at ho; simp [look] at ho
    · intro r o ho b' hb'
      simp only [look_cons] at ho
      by_cases e : r = 1000
      · exact hheap.own r (.bld s) (by simp [look, e]) b' hb'
      · rw [if_neg e] at ho; simp [look] at ho
    · intro r r' o o' ho ho' hne
      simp only [look_cons] at ho ho'
      by_cases e : r = 1000
      · by_cases e' : r' = 1000
        · exact absurd (e.trans e'.symm) hne
        · rw [if_neg e'] at ho'; simp [look] at ho'
      · rw [if_neg e] at ho; simp [look] at ho
    · intro b' o ho hnS hby
      rcases hby hb with hlt | hty
      · rcases k3 with ⟨_, k5⟩ | k5
        · rw [q2.block b' (by omega)]; exact ho
        · have := (Array.getElem?_eq_some_iff.1 ho).1
          rw [h1] at k5
          rw [q2.block b' (by omega)]; exact ho
      · refine q3 b' o ho (fun e => ?_) hty
        injection e with e
        exact hnS (e ▸ hSb)
  · exfalso
    have : b < w.heap.size := by
      rcases k4 with k4 | k4 <;>
      · obtain ⟨_, v, hv', _⟩ := k4
        exact (Array.getElem?_eq_some_iff.1 hv').1
    have hBb : base ≤ b := by
      rcases k4 with k4 | k4 <;>
      · exact k4.1
    omega
theorem isB_of {T e : TypeId} {B b : Nat} {bs : List Value} {w : World} (h : Lib.BuilderAtF T e B b (.pointer (some ⟨b, 0, none⟩)) bs w) : Lib.IsBuilderF T e B b bs w := .inr h
theorem drop1 {aa : Array Value} {y z : Value} (h : aa.size = 2) (h1 : aa.getD 1 undef = z) : aa.toList.drop 1 = [z] := by
  obtain ⟨l⟩ := aa
  match l, h with
  | [a, b], _ => simp at h1 ⊢; exact h1
theorem lib_writeString {f : FuncId} (en : Enters P f) (hc : ∀ (B b : Nat) (bs : List Value) (s : ByteArray) (w : World), Lib.IsBuilderF tB E.tb B b bs w → bs.length + s.size ≤ 140737488355328 → B ≤ w.heap.size →
      Calls P f #[.pointer (some ⟨b, 0, none⟩), .string s] w fun e w' => e = .returned (.tuple #[.int .i64 s.size, .nilIface]) ∧ (Lib.BuilderAtF tB E.tb B b (.pointer (some ⟨b, 0, none⟩)) (bs ++ Lib.strCells s) w' ∧ Below B w w' ∧ Lib.OthersKept E.tb (some b) w w')) :
    HeapGOk P E tB W0 f (argH 2 ⟨[(0, .fix (CV.ptr 1000 0)), (1, .str)], [(1000, .bld)], []⟩ fun vs R K => lWriteString (strOf (vs.getD 1 .any)) (strOf (vs.getD 2 .any)) (fun r1 r2 o3 => K (GV.tup [CV.p (PV.int .i64 r1), CV.p r2]) [(1000, Ob.bld o3)])) := by
  refine HeapGOk.lib (c := fun vs => decide ((strOf (vs.getD 2 .any)).length + (strOf (vs.getD 1 .any)).length ≤ BLIM)) (x := fun vs => GV.tup [CV.p (PV.int .i64 (((strOf (vs.getD 1 .any)).length : Nat) : Int)), CV.p .nilif]) (H := fun vs => [(1000, Ob.bld (strOf (vs.getD 2 .any) ++ strOf (vs.getD 1 .any)))]) (fun vs R K => rfl) en fun vs hcd => ?_
  have hcd : (strOf (vs.getD 2 .any)).length + (strOf (vs.getD 1 .any)).length ≤ 140737488355328 := of_decide_eq_true hcd
  show HeapFn P E tB W0 f [.c (.ptr 1000 0), .c (.p (.str (strOf (vs.getD 1 .any))))] [(1000, .bld (strOf (vs.getD 2 .any)))] _ _
  generalize strOf (vs.getD 1 .any) = t at hcd ⊢
  generalize strOf (vs.getD 2 .any) = s at hcd ⊢
  refine HeapFn.bld en (vals := [.string ⟨t.toArray⟩]) (x := .tuple #[.int .i64 ((t.length : Nat) : Int), .nilIface]) (fun I μ => ?_) (fun I μ aa h1 h2 => drop1 (y := undef) (by simpa using h1) (repStr (h2 0 (by simp)))) fun B b w hB hw => ?_
  · have := repTup2 (I := I) (.int .i64 ((t.length : Nat) : Int)) .nilif
    exact RepG.pure this (by simp [GV.keys, CV.keys])
  · refine (hc B b (Lib.byteCells s) ⟨t.toArray⟩ w hB (by rw [bsize]; simpa [Lib.byteCells] using hcd) hw).mono ?_
    rintro e w' ⟨rfl, q1, q2, q3⟩
    refine ⟨by rw [bsize], ?_, q2, q3⟩
    have e1 : Lib.byteCells s ++ Lib.strCells ⟨t.toArray⟩ = Lib.byteCells (s ++ t) := by simp [Lib.byteCells, Lib.strCells]
    rw [← e1]
    exact isB_of q1
theorem lib_writeByte {f : FuncId} (en : Enters P f) (hc : ∀ (B b : Nat) (bs : List Value) (c : Int) (w : World), Lib.IsBuilderF tB E.tb B b bs w → bs.length + 1 ≤ 140737488355328 → B ≤ w.heap.size →
      Calls P f #[.pointer (some ⟨b, 0, none⟩), .int .u8 c] w fun e w' => e = .returned .nilIface ∧ (Lib.BuilderAtF tB E.tb B b (.pointer (some ⟨b, 0, none⟩)) (bs ++ [.int .u8 c]) w' ∧ Below B w w' ∧ Lib.OthersKept E.tb (some b) w w')) :
    HeapGOk P E tB W0 f (argH 2 ⟨[(0, .fix (CV.ptr 1000 0)), (1, .int .u8)], [(1000, .bld)], []⟩ fun vs R K => lWriteByte (intOf (vs.getD 1 .any)) (strOf (vs.getD 2 .any)) (fun r1 o2 => K (GV.pv (r1)) [(1000, Ob.bld o2)])) := by
  refine HeapGOk.lib (c := fun vs => decide ((strOf (vs.getD 2 .any)).length + 1 ≤ BLIM) && (decide (0 ≤ intOf (vs.getD 1 .any)) && decide (intOf (vs.getD 1 .any) < 256))) (x := fun vs => GV.pv .nilif) (H := fun vs => [(1000, Ob.bld (strOf (vs.getD 2 .any) ++ [UInt8.ofNat (intOf (vs.getD 1 .any)).toNat]))]) (fun vs R K => rfl) en fun vs hcd => ?_
  simp only [Bool.and_eq_true, decide_eq_true_eq] at hcd
  obtain ⟨c1, c2, c3⟩ := hcd
  have c1 : (strOf (vs.getD 2 .any)).length + 1 ≤ 140737488355328 := c1
  show HeapFn P E tB W0 f [.c (.ptr 1000 0), .c (.p (.int .u8 (intOf (vs.getD 1 .any))))] [(1000, .bld (strOf (vs.getD 2 .any)))] _ _
  generalize intOf (vs.getD 1 .any) = t at c2 c3 ⊢
  generalize strOf (vs.getD 2 .any) = s at c1 ⊢
  refine HeapFn.bld en (vals := [.int .u8 t]) (x := .nilIface) (fun I μ => RepP.nilif) (fun I μ aa h1 h2 => drop1 (y := undef) (by simpa using h1) (repInt (h2 0 (by simp)))) fun B b w hB hw => ?_
  refine (hc B b (Lib.byteCells s) t w hB (by simpa [Lib.byteCells] using c1) hw).mono ?_
  rintro e w' ⟨rfl, q1, q2, q3⟩
  refine ⟨rfl, ?_, q2, q3⟩
  have e1 : Lib.byteCells s ++ [.int .u8 t] = Lib.byteCells (s ++ [UInt8.ofNat t.toNat]) := by
    simp only [Lib.byteCells, List.map_append, List.map_cons, List.map_nil]
    congr 3
    have : (UInt8.ofNat t.toNat).toNat = t.toNat := by simp; omega
    rw [this]; omega
  rw [← e1]
  exact isB_of q1
theorem lib_string {f : FuncId} (en : Enters P f) (hc : ∀ (B b : Nat) (l : List UInt8) (w : World), Lib.IsBuilderF tB E.tb B b (Lib.byteCells l) w → B ≤ w.heap.size →
      Calls P f #[.pointer (some ⟨b, 0, none⟩)] w fun e w' => e = .returned (.string ⟨l.toArray⟩) ∧ (Lib.IsBuilderF tB E.tb B b (Lib.byteCells l) w' ∧ Below B w w' ∧ Lib.OthersKept E.tb (some b) w w')) :
    HeapGOk P E tB W0 f (argH 1 ⟨[(0, .fix (CV.ptr 1000 0))], [(1000, .bld)], []⟩ fun vs R K => lString (strOf (vs.getD 1 .any)) (fun r1 o2 => K (GV.pv (PV.str r1)) [(1000, Ob.bld o2)])) := by
  refine HeapGOk.lib (c := fun vs => true) (x := fun vs => GV.pv (.str (strOf (vs.getD 1 .any)))) (H := fun vs => [(1000, Ob.bld (strOf (vs.getD 1 .any)))]) (fun vs R K => rfl) en fun vs hcd => ?_
  show HeapFn P E tB W0 f [.c (.ptr 1000 0)] [(1000, .bld (strOf (vs.getD 1 .any)))] _ _
  generalize strOf (vs.getD 1 .any) = s
  refine HeapFn.bld en (vals := []) (x := .string ⟨s.toArray⟩) (fun I μ => RepP.str _) (fun I μ aa h1 h2 => ?_) fun B b w hB hw => hc B b s w hB hw
  obtain ⟨l⟩ := aa
  match l, h1 with
  | [a], _ => rfl
end
end Go.Dip
end

/- What a call is handed: its arguments as they read, told as plain trees. -/
section
set_option linter.unusedVariables false
set_option linter.unusedSimpArgs false
namespace Go.Dip

/-- All cells of a world. -/
def cellsIn (w : World) : Mem := fun b o => match w.heap[b]? with
  | some (.cells arr _ _) => arr[o]?.filter fun v => v.oneCell'
  | _ => none
def whole (E : Env) (t : TypeId) (qs : List PV) : PV := bif isStruct (E.ty t) then .agg qs else qs.getD 0 .any
def part (E : Env) (qs : List PV) (off : Nat) (t : TypeId) : PV := whole E t ((qs.drop off).take (E.sz t))
/-- A plain tree of a type. -/
inductive IsT (E : Env) : TypeId → PV → Prop
  | int {t k n} : E.ty t = .int k → k.min ≤ n → n ≤ k.max → IsT E t (.int k n)
  | bool {t b} : E.ty t = .bool → IsT E t (.bool b)
  | str {t s} : E.ty t = .str → s.length ≤ 140737488351232 → IsT E t (.str s)
  | sl {t e es} : E.ty t = .slice e → es.length ≤ 140737488351232 → (∀ x, x ∈ es → IsT E e x) → IsT E t (.sl (E.sz e) es)
  | agg {t fs qs} : E.ty t = .struct fs → qs.length = E.sz t → (∀ f, f ∈ fs → IsT E f.2 (part E qs f.1 f.2)) → IsT E t (.agg qs)
def tiles (E : Env) : Nat → List (Nat × TypeId) → Nat → Bool
  | off, [], n => Nat.beq off n
  | off, f :: fs, n => Nat.beq f.1 off && tiles E (off + E.sz f.2) fs n
def closedB (E : Env) (gs : List Nat) : Bool := gs.all fun t => match E.ty t with
  | .int _ => true
  | .bool => true
  | .str => true
  | .slice e => isIn gs e
  | .struct fs => tiles E 0 fs (E.sz t) && fs.all fun f => isIn gs f.2
  | _ => false

section
variable {P : Program} {E : Env} {tB : TypeId}
theorem isT_one {t : TypeId} {x : PV} (h : IsT E t x) (hs : isStruct (E.ty t) = false) : x.isOne = true := by
  cases h with
  | agg h1 _ _ => rw [h1] at hs; cases hs
  | _ => rfl
theorem cell_in {w : World} {b o : Nat} {v : Value} (h : w.cell? ⟨b, o, none⟩ = some v) (h1 : v.oneCell' = true) : cellsIn w b o = some v := by
  unfold World.cell? at h
  unfold cellsIn
  cases hh : w.heap[b]? with
  | none => simp [hh] at h
  | some ob =>
    simp only [hh] at h ⊢
    cases ob <;> first | (simp at h; done) | skip
    simp only [Option.isSome_none, Bool.false_eq_true, if_false] at h
    simp only [h, Option.filter_some, h1, if_true]
theorem spot_none {w : World} {a : Addr} {v : Value} (h : w.cell? a = some v) : a.spot = none := by
  unfold World.cell? at h
  split at h
  · cases hs : a.spot with
    | none => rfl
    | some s => simp [hs] at h
  · cases h
theorem mapM_len {α β : Type} {f : α → Option β} : ∀ {l : List α} {r : List β}, l.mapM f = some r → r.length = l.length
  | [], r, h => by simp at h; subst h; rfl
  | x :: l, r, h => by
    simp only [List.mapM_cons, Option.bind_eq_bind, Option.bind_eq_some_iff, Option.pure_def, Option.some.injEq] at h
    obtain ⟨y, _, ys, h1, rfl⟩ := h
    simp [mapM_len h1]
theorem cells_at {w : World} {a : Addr} {n : Nat} {cs : List Value} (h : w.cells? 0 a n = some cs) : cs.length = n ∧ ∀ j, j < n → w.cell? (a.add j) = some (cs.getD j undef) := by
  unfold World.cells? at h
  simp only [Nat.zero_le, if_true] at h
  have hl : cs.length = n := by simpa using mapM_len h
  refine ⟨hl, fun j hj => ?_⟩
  obtain ⟨b, h1, h2⟩ := Lib.mapM_at h j j (by simp [hj])
  rw [h2, List.getD_eq_getElem?_getD, h1]
  rfl
theorem getD_append_lt {α : Type} {l m : List α} {j : Nat} {d : α} (h : j < l.length) : (l ++ m).getD j d = l.getD j d := by
  simp only [List.getD_eq_getElem?_getD, List.getElem?_append_left h]
theorem getD_append_ge {α : Type} {l m : List α} {j : Nat} {d : α} (h : l.length ≤ j) : (l ++ m).getD j d = m.getD (j - l.length) d := by
  simp only [List.getD_eq_getElem?_getD]
  rw [List.getElem?_append_right h]
theorem getD_drop_take {α : Type} {l : List α} {o n j : Nat} {d : α} (h : j < n) : ((l.drop o).take n).getD j d = l.getD (o + j) d := by
  simp only [List.getD_eq_getElem?_getD, List.getElem?_take, h, if_true, List.getElem?_drop]
theorem tiles_ge {f : Nat × TypeId} : ∀ {fs : List (Nat × TypeId)} {off n : Nat}, tiles E off fs n = true → f ∈ fs → off ≤ f.1
  | g :: fs, off, n, h, hf => by
    simp only [tiles, Bool.and_eq_true, nbeq, decide_eq_true_eq] at h
    rcases List.mem_cons.1 hf with rfl | hf
    · omega
    · have := tiles_ge h.2 hf
      omega
theorem tiles_le {fs : List (Nat × TypeId)} : ∀ {off n : Nat}, tiles E off fs n = true → off ≤ n := by
  induction fs with
  | nil => intro off n h; simp only [tiles, nbeq, decide_eq_true_eq] at h; omega
  | cons f fs ih =>
    intro off n h
    simp only [tiles, Bool.and_eq_true] at h
    have := ih h.2
    omega
theorem fields_rep {I : Mem} {cs : List Value} : ∀ {fs : List (Nat × TypeId)} {off n : Nat}, tiles E off fs n = true → cs.length = n →
    (∀ f, f ∈ fs → ∃ qs : List PV, qs.length = E.sz f.2 ∧ (∀ j, j < E.sz f.2 → RepP I (qs.getD j .any) (((cs.drop f.1).take (E.sz f.2)).getD j undef) ∧ (((cs.drop f.1).take (E.sz f.2)).getD j undef).oneCell' = true) ∧ IsT E f.2 (whole E f.2 qs)) →
    ∃ qs : List PV, qs.length = n - off ∧ (∀ j, j < n - off → RepP I (qs.getD j .any) (cs.getD (off + j) undef) ∧ (cs.getD (off + j) undef).oneCell' = true) ∧ ∀ f, f ∈ fs → IsT E f.2 (part E qs (f.1 - off) f.2)
  | [], off, n, ht, hn, _ => by
    simp only [tiles, nbeq, decide_eq_true_eq] at ht
    exact ⟨[], by simp; omega, fun j hj => by omega, fun f hf => by cases hf⟩
  | f :: fs, off, n, ht, hn, h => by
    simp only [tiles, Bool.and_eq_true, nbeq, decide_eq_true_eq] at ht
    obtain ⟨ht1, ht2⟩ := ht
    have hle := tiles_le ht2
    obtain ⟨qf, a1, a2, a3⟩ := h f (by simp)
    obtain ⟨qs, b1, b2, b3⟩ := fields_rep (cs := cs) ht2 hn fun g hg => h g (by simp [hg])
    refine ⟨qf ++ qs, by simp; omega, fun j hj => ?_, fun g hg => ?_⟩
    · by_cases hlt : j < E.sz f.2
      · rw [getD_append_lt (by omega)]
        have := a2 j hlt
        rw [getD_drop_take hlt, ht1] at this
        exact this
      · rw [getD_append_ge (by omega), a1]
        have := b2 (j - E.sz f.2) (by omega)
        rw [show off + E.sz f.2 + (j - E.sz f.2) = off + j by omega] at this
        exact this
    · rcases List.mem_cons.1 hg with rfl | hg
      · unfold part
        rw [ht1, Nat.sub_self, List.drop_zero, List.take_left' a1]
        exact a3
      · have hge := tiles_ge ht2 hg
        have := b3 g hg
        unfold part at this ⊢
        have hdrop : (qf ++ qs).drop (g.1 - off) = qs.drop (g.1 - (off + E.sz f.2)) := by
          rw [List.drop_append, List.drop_eq_nil_of_le (by omega : qf.length ≤ g.1 - off), List.nil_append, a1]
          congr 1
          omega
        rw [hdrop]
        exact this

def bytesB (P : Program) (E : Env) (gs : List Nat) : Bool := gs.all fun t => match E.ty t with
  | .slice e => Nat.blt 0 (P.bytesOf e)
  | _ => true
def light {H : Type} (P : Program) (t : TypeId) (d : DataW H) : Prop := ∀ n, n ∈ d.weights P t → n ≤ 140737488351232
theorem each_light {H : Type} : ∀ {ts : List TypeId} {ds : List (DataW H)}, (∀ n, n ∈ DataW.weightsEach P ts ds → n ≤ 140737488351232) → ∀ (k : Nat) t d, ts[k]? = some t → ds[k]? = some d → light P t d
  | t :: ts, d :: ds, h, 0, t', d', h1, h2 => by
    simp only [List.getElem?_cons_zero, Option.some.injEq] at h1 h2
    subst h1 h2
    exact fun n hn => h n (by simp [DataW.weightsEach, hn])
  | t :: ts, d :: ds, h, k + 1, t', d', h1, h2 => each_light (ts := ts) (ds := ds) (fun n hn => h n (by simp only [DataW.weightsEach, List.mem_append]; exact .inr hn)) k t' d' (by simpa using h1) (by simpa using h2)
  | [], _, _, k, t', d', h1, _ => by simp at h1
  | _ :: _, [], _, k, t', d', _, h2 => by simp at h2
theorem all_light {H : Type} {e : TypeId} : ∀ {ds : List (DataW H)}, (∀ n, n ∈ DataW.weightsAll P e ds → n ≤ 140737488351232) → ∀ d, d ∈ ds → light P e d
  | d :: ds, h, d', hd => by
    rcases List.mem_cons.1 hd with rfl | hd
    · exact fun n hn => h n (by simp [DataW.weightsAll, hn])
    · exact all_light (fun n hn => h n (by simp [DataW.weightsAll, hn])) d' hd
theorem trod_rep (hE : EnvOk P E tB) {gs : List Nat} (hg : closedB E gs = true) (hby : bytesB P E gs = true) {H : Type} {enc : TypeId × Value → H} {w : World} {held : Bool} : ∀ (fuel : Nat) (t : TypeId) (cs : List Value) (d : DataW H) (ps : List MemPlace),
    DataW.trod enc P w 0 (fun _ => true) held fuel t cs = some (d, ps) → t ∈ gs → light P t d →
    ∃ qs : List PV, qs.length = E.sz t ∧ cs.length = E.sz t ∧ (∀ j, j < E.sz t → RepP (cellsIn w) (qs.getD j .any) (cs.getD j undef) ∧ (cs.getD j undef).oneCell' = true) ∧ IsT E t (whole E t qs) := by
  intro fuel
  induction fuel with
  | zero => intro t cs d ps h; simp [DataW.trod] at h
  | succ fuel ih =>
    intro t cs d ps h ht hlt
    have hc := (List.all_eq_true.1 hg) t ht
    have one : ∀ (v : Value) (x : PV), cs = [v] → isScalar (E.ty t) = true → RepP (cellsIn w) x v → v.oneCell' = true → IsT E t x →
        ∃ qs : List PV, qs.length = E.sz t ∧ cs.length = E.sz t ∧ (∀ j, j < E.sz t → RepP (cellsIn w) (qs.getD j .any) (cs.getD j undef) ∧ (cs.getD j undef).oneCell' = true) ∧ IsT E t (whole E t qs) := by
      rintro v x rfl hsc h1 h2 h3
      obtain ⟨_, _, _, _, _, _, hsz⟩ := hE.scalar t hsc
      have hns : isStruct (E.ty t) = false := by cases hk : E.ty t <;> rw [hk] at hsc <;> first | rfl | cases hsc
      refine ⟨[x], by simp [hsz], by simp [hsz], fun j hj => ?_, by simpa [whole, hns] using h3⟩
      have : j = 0 := by omega
      subst this
      exact ⟨h1, h2⟩
    cases hk : E.ty t with
    | int k =>
      have hu := hE.int t k hk
      rcases cs with _ | ⟨c, _ | ⟨c2, cs⟩⟩
      · simp [DataW.trod, hu] at h
      · cases c <;> try (simp [DataW.trod, hu] at h; done)
        rename_i k' n
        simp only [DataW.trod, hu] at h
        split at h
        · rename_i hcond
          obtain ⟨rfl, hw⟩ := hcond
          simp only [Lit.wf, Bool.and_eq_true, decide_eq_true_eq] at hw
          exact one _ (.int _ _) rfl (by rw [hk]; rfl) (.int _ _) rfl (.int hk hw.1 hw.2)
        · cases h
      · simp [DataW.trod, hu] at h
    | bool =>
      have hu := hE.bool t hk
      rcases cs with _ | ⟨c, _ | ⟨c2, cs⟩⟩
      · simp [DataW.trod, hu] at h
      · cases c <;> try (simp [DataW.trod, hu] at h; done)
        exact one _ (.bool _) rfl (by rw [hk]; rfl) (.bool _) rfl (.bool hk)
      · simp [DataW.trod, hu] at h
    | str =>
      have hu := hE.str t hk
      rcases cs with _ | ⟨c, _ | ⟨c2, cs⟩⟩
      · simp [DataW.trod, hu] at h
      · cases c <;> try (simp [DataW.trod, hu] at h; done)
        rename_i s
        simp only [DataW.trod, hu] at h
        split at h
        · rename_i hl
          refine one _ (.str s.data.toList) rfl (by rw [hk]; rfl) (.str _) rfl (.str hk ?_)
          injection h with h
          injection h with h _
          subst h
          exact hlt _ (by simp [DataW.weights])
        · cases h
      · simp [DataW.trod, hu] at h
    | slice e =>
      obtain ⟨hu, i, z, hi, hsz, _, _, hpos, _⟩ := hE.slice t e hk
      have hcell : P.cellsOf e = E.sz e := by simp [Program.cellsOf, hi, hsz]
      rw [hk] at hc
      have he : e ∈ gs := isIn_iff.1 hc
      have hsc : isScalar (E.ty t) = true := by rw [hk]; rfl
      rcases cs with _ | ⟨c, _ | ⟨c2, cs⟩⟩
      · simp [DataW.trod, hu] at h
      rotate_left
      · simp [DataW.trod, hu] at h
      cases c <;> try (simp [DataW.trod, hu] at h; done)
      rename_i a len cap
      cases a with
      | none =>
        rcases len with _ | len <;> rcases cap with _ | cap <;> try (simp [DataW.trod, hu] at h; done)
        exact one _ (.sl (E.sz e) []) rfl hsc (.nilsl _ none) rfl (.sl hk (by simp) (by simp))
      | some a =>
        simp only [DataW.trod, hu] at h
        rw [hcell] at h
        split at h
        · rename_i hcond
          obtain ⟨_, hlc, hcm⟩ := hcond
          obtain ⟨elems, hel, h⟩ := Option.bind_eq_some_iff.1 h
          simp only [if_true] at h
          obtain ⟨rest, hre, hd⟩ := Option.map_eq_some_iff.1 h
          injection hd with hd _
          subst hd
          have hbe : 0 < P.bytesOf e := by
            have := (List.all_eq_true.1 hby) t ht
            rw [hk] at this
            simpa using this
          have hcount : len ≤ 140737488351232 := by
            have h1 := hlt ((elems.map (·.1)).length * P.bytesOf e + (rest.map (·.1)).length * P.bytesOf e) (by
              simp only [DataW.weights, hu, List.mem_cons]
              left
              rw [Nat.add_mul])
            have h2 : elems.length = len := by simpa using mapM_len hel
            have h3 : len * 1 ≤ len * P.bytesOf e := Nat.mul_le_mul_left len hbe
            simp only [List.length_map, h2] at h1
            omega
          have hlw : ∀ b, b ∈ elems → light P e b.1 := fun b hb => all_light (P := P) (e := e) (ds := elems.map (·.1)) (fun n hn => hlt n (by
            simp only [DataW.weights, hu, List.mem_cons, List.mem_append]
            exact .inr (.inl hn))) b.1 (List.mem_map_of_mem hb)
          have hat : ∀ i, i < len → ∃ cs', w.cells? 0 (a.add (i * E.sz e)) (E.sz e) = some cs' ∧ ∃ qs : List PV, qs.length = E.sz e ∧ (∀ j, j < E.sz e → RepP (cellsIn w) (qs.getD j .any) (cs'.getD j undef) ∧ (cs'.getD j undef).oneCell' = true) ∧ IsT E e (whole E e qs) := by
            intro i hi'
            obtain ⟨b, hb0, h2⟩ := Lib.mapM_at hel i i (by simp [hi'])
            obtain ⟨cs', h3, h4⟩ := Option.bind_eq_some_iff.1 h2
            obtain ⟨qs, k1, _, k3, k4⟩ := ih e cs' b.1 b.2 h4 he (hlw b (List.mem_of_getElem? hb0))
            exact ⟨cs', h3, qs, k1, k3, k4⟩
          by_cases hz : cap = 0
          · subst hz
            have : len = 0 := by omega
            subst this
            exact one _ (.sl (E.sz e) []) rfl hsc (.nilsl _ (some a)) rfl (.sl hk (by simp) (by simp))
          · have hspot : a.spot = none := by
              by_cases hl : 0 < len
              · obtain ⟨cs', h1, _⟩ := hat 0 hl
                have h2 := (cells_at h1).2 0 hpos
                have e0 : (a.add (0 * E.sz e)).add 0 = a := by simp [Addr.add]
                rw [e0] at h2
                exact spot_none h2
              · have hl0 : len = 0 := by omega
                subst hl0
                obtain ⟨b, _, h2⟩ := Lib.mapM_at hre 0 0 (List.getElem?_range (by omega))
                obtain ⟨cs', h3, _⟩ := Option.bind_eq_some_iff.1 h2
                have h4 := (cells_at h3).2 0 hpos
                have e0 : (a.add ((0 + 0) * E.sz e)).add 0 = a := by simp [Addr.add]
                rw [e0] at h4
                exact spot_none h4
            obtain ⟨b, o, sp⟩ := a
            simp only at hspot
            subst hspot
            let g : Nat → List PV := fun i => if hi : i < len then Classical.choose (Classical.choose_spec (hat i hi)).2 else []
            let v : Nat → List Value := fun i => if hi : i < len then Classical.choose (hat i hi) else []
            have hv : ∀ i, i < len → w.cells? 0 ((⟨b, o, none⟩ : Addr).add (i * E.sz e)) (E.sz e) = some (v i) ∧ (g i).length = E.sz e ∧ (∀ j, j < E.sz e → RepP (cellsIn w) ((g i).getD j .any) ((v i).getD j undef) ∧ ((v i).getD j undef).oneCell' = true) ∧ IsT E e (whole E e (g i)) := by
              intro i hi'
              have h1 := (Classical.choose_spec (hat i hi')).1
              have h2 := Classical.choose_spec (Classical.choose_spec (hat i hi')).2
              simp only [v, g, dif_pos hi']
              exact ⟨h1, h2⟩
            have hes : ∀ i, i < len → ((List.range len).map fun i => whole E e (g i)).getD i .any = whole E e (g i) := by
              intro i hi'
              simp [List.getD_eq_getElem?_getD, List.getElem?_map, List.getElem?_range hi']
            have hcells : ∀ i, i < len → ∀ j, j < E.sz e → pcell (whole E e (g i)) j = (g i).getD j .any := by
              intro i hi' j hj
              obtain ⟨_, h1, _, h3⟩ := hv i hi'
              unfold whole at h3 ⊢
              cases hs : isStruct (E.ty e)
              · rw [hs] at h3
                simp only [cond_false] at h3 ⊢
                have h1' := isT_one h3 hs
                have hsz1 : E.sz e = 1 := by
                  have : isScalar (E.ty e) = true := by
                    have hce := (List.all_eq_true.1 hg) e he
                    cases hke : E.ty e <;> rw [hke] at hce hs <;> first | rfl | (cases hs; done) | (cases hce; done)
                  obtain ⟨_, _, _, _, _, _, hh⟩ := hE.scalar e this
                  exact hh
                have : j = 0 := by omega
                subst this
                unfold pcell
                rw [(PV.one_cells h1').1]
                rfl
              · rfl
            have hcnt : ∀ i, i < len → (whole E e (g i)).cnt = E.sz e := by
              intro i hi'
              obtain ⟨_, h1, _, h3⟩ := hv i hi'
              unfold whole at h3 ⊢
              cases hs : isStruct (E.ty e)
              · rw [hs] at h3
                simp only [cond_false] at h3 ⊢
                have h1' := isT_one h3 hs
                have : isScalar (E.ty e) = true := by
                  have hce := (List.all_eq_true.1 hg) e he
                  cases hke : E.ty e <;> rw [hke] at hce hs <;> first | rfl | (cases hs; done) | (cases hce; done)
                obtain ⟨_, _, _, _, _, _, hh⟩ := hE.scalar e this
                rw [(PV.one_cells h1').2, hh]
              · exact h1
            have hlen : ((List.range len).map fun i => whole E e (g i)).length = len := by simp
            have hrep := RepP.sl (I := cellsIn w) (E.sz e) ((List.range len).map fun i => whole E e (g i)) b o cap (fun i j => (v i).getD j undef) (by rw [hlen]; exact hlc) (fun i hi' => by rw [hlen] at hi'; rw [hes i hi']; exact hcnt i hi')
              ⟨fun i j hi' hj => by
                rw [hlen] at hi'
                have h1 := (cells_at (hv i hi').1).2 j hj
                rw [add_at, add_at] at h1
                rw [← Nat.add_assoc]
                exact cell_in h1 ((hv i hi').2.2.1 j hj).2, fun i j hi' hj => by rw [hlen] at hi'; exact ((hv i hi').2.2.1 j hj).2⟩
              (fun i j hi' hj => by rw [hlen] at hi'; rw [hes i hi', hcells i hi' j hj]; exact ((hv i hi').2.2.1 j hj).1)
            rw [hlen] at hrep
            refine one _ _ rfl hsc hrep rfl (.sl hk (by rw [hlen]; exact hcount) fun x hx => ?_)
            obtain ⟨i, hi', rfl⟩ := List.mem_map.1 hx
            exact (hv i (by simpa using hi')).2.2.2
        · cases h
    | struct fs =>
      obtain ⟨Fs, i, hu, hfs, hi, hsz⟩ := hE.struct t fs hk
      have hcell : P.cellsOf t = E.sz t := by simp [Program.cellsOf, hi, hsz]
      rw [hk] at hc
      simp only [Bool.and_eq_true, List.all_eq_true] at hc
      obtain ⟨htile, hin⟩ := hc
      rw [DataW.trod.eq_def] at h
      simp only [hu] at h
      rw [hcell] at h
      split at h
      · rename_i hlen
        obtain ⟨xs, hx, hd⟩ := Option.map_eq_some_iff.1 h
        injection hd with hd _
        subst hd
        have hlw := each_light (P := P) (ts := Fs.toList.map (·.type)) (ds := xs.map (·.1)) (fun n hn => hlt n (by simp only [DataW.weights, hu]; exact hn))
        have hf : ∀ f, f ∈ fs → ∃ qs : List PV, qs.length = E.sz f.2 ∧ (∀ j, j < E.sz f.2 → RepP (cellsIn w) (qs.getD j .any) (((cs.drop f.1).take (E.sz f.2)).getD j undef) ∧ (((cs.drop f.1).take (E.sz f.2)).getD j undef).oneCell' = true) ∧ IsT E f.2 (whole E f.2 qs) := by
          intro f hf
          obtain ⟨_, ⟨i2, hi2, hsz2⟩, _⟩ := hE.fits t fs hk f hf
          have hc2 : P.cellsOf f.2 = E.sz f.2 := by simp [Program.cellsOf, hi2, hsz2]
          have hf' := hf
          rw [hfs] at hf'
          obtain ⟨F, hF, rfl⟩ := List.mem_map.1 hf'
          obtain ⟨k, hk'⟩ := List.getElem?_of_mem hF
          obtain ⟨b, hb0, h2⟩ := Lib.mapM_at hx k F hk'
          have hc2 : P.cellsOf F.type = E.sz F.type := hc2
          rw [hc2] at h2
          obtain ⟨qs, k1, _, k3, k4⟩ := ih _ _ b.1 b.2 h2 (isIn_iff.1 (hin _ hf)) (hlw k F.type b.1 (by simp [hk']) (by simp [hb0]))
          exact ⟨qs, k1, k3, k4⟩
        obtain ⟨qs, a1, a2, a3⟩ := fields_rep (cs := cs) htile hlen hf
        refine ⟨qs, by simpa using a1, hlen, fun j hj => ?_, ?_⟩
        · have := a2 j (by simpa using hj)
          rw [Nat.zero_add] at this
          exact this
        · have hw : whole E t qs = .agg qs := by simp [whole, hk, isStruct]
          rw [hw]
          exact .agg hk (by simpa using a1) fun f hf => by simpa using a3 f hf
      · cases h
    | _ => rw [hk] at hc; cases hc

/-- An argument, as it reads. -/
theorem arg_rep (hE : EnvOk P E tB) {gs : List Nat} (hg : closedB E gs = true) (hby : bytesB P E gs = true) {H : Type} {enc : TypeId × Value → H} {w : World} {held : Bool} {t : TypeId} {v : Value} {d : DataW H} {ps : List MemPlace} (h : DataW.Trod enc P w 0 (fun _ => true) held t v d ps) (ht : t ∈ gs) (hlt : light P t d)
    (hform : isStruct (E.ty t) = true → ∃ vs, v = .agg vs) (hone : isStruct (E.ty t) = false → v.cells = #[v]) : ∃ x, IsT E t x ∧ RepP (cellsIn w) x v := by
  obtain ⟨fuel, h⟩ := h
  obtain ⟨qs, h1, h2, h3, h4⟩ := trod_rep hE hg hby fuel t _ d ps h ht hlt
  refine ⟨_, h4, ?_⟩
  unfold whole
  cases hs : isStruct (E.ty t)
  · simp only [cond_false]
    have hc := hone hs
    rw [hc] at h2 h3
    have hsz : E.sz t = 1 := by simpa using h2.symm
    exact (h3 0 (by omega)).1
  · obtain ⟨vs, rfl⟩ := hform hs
    simp only [cond_true]
    have e : (Value.agg vs).cells = vs := rfl
    rw [e] at h2 h3
    refine RepP.agg qs vs (by rw [h1, ← h2]; simp) (fun i hi => ?_) (fun i hi => ?_)
    · rw [agetD]; exact (h3 i (by omega)).1
    · rw [agetD]; exact (h3 i (by omega)).2

theorem okWide_form (hE : EnvOk P E tB) {gs : List Nat} (hg : closedB E gs = true) {w : World} {base : Nat} {t : TypeId} {v : Value} (h : Value.okWide P w .any base t v) (ht : t ∈ gs) : (isStruct (E.ty t) = true → ∃ vs, v = .agg vs) ∧ (isStruct (E.ty t) = false → v.cells = #[v]) := by
  have hc := (List.all_eq_true.1 hg) t ht
  cases hk : E.ty t with
  | int k =>
    have hu := hE.int t k hk
    refine ⟨fun e => (by cases e), fun _ => ?_⟩
    simp only [Value.okWide, hu, Cell.okWide, Cell.ok] at h
    cases v <;> first | rfl | cases h
  | bool =>
    have hu := hE.bool t hk
    refine ⟨fun e => (by cases e), fun _ => ?_⟩
    simp only [Value.okWide, hu, Cell.okWide, Cell.ok] at h
    cases v <;> first | rfl | cases h
  | str =>
    have hu := hE.str t hk
    refine ⟨fun e => (by cases e), fun _ => ?_⟩
    simp only [Value.okWide, hu, Cell.okWide, Cell.ok] at h
    cases v <;> first | rfl | cases h
  | slice e =>
    have hu := (hE.slice t e hk).1
    refine ⟨fun e => (by cases e), fun _ => ?_⟩
    simp only [Value.okWide, hu, Cell.okWide, Cell.ok] at h
    cases v <;> first | rfl | cases h
  | struct fs =>
    obtain ⟨Fs, i, hu, _⟩ := hE.struct t fs hk
    refine ⟨fun _ => ?_, fun e => (by cases e)⟩
    simp only [Value.okWide, hu] at h
    obtain ⟨cs, rfl, _⟩ := h
    exact ⟨cs, rfl⟩
  | _ => rw [hk] at hc; cases hc
/-- .. with its type. -/
theorem arg_read (hE : EnvOk P E tB) {gs : List Nat} (hg : closedB E gs = true) (hby : bytesB P E gs = true) {H : Type} {enc : TypeId × Value → H} {w : World} {held : Bool} {base : Nat} {t : TypeId} {v : Value} {d : DataW H} {ps : List MemPlace} (h : DataW.Trod enc P w 0 (fun _ => true) held t v d ps)
    (hv : Value.okWide P w .any base t v) (ht : t ∈ gs) (hlt : light P t d) : ∃ x, IsT E t x ∧ RepP (cellsIn w) x v :=
  arg_rep hE hg hby h ht hlt (okWide_form hE hg hv ht).1 (okWide_form hE hg hv ht).2

theorem lights {H : Type} {ts us : List TypeId} {ds gs : List (DataW H)} (h : (DataW.weightsEach P (ts ++ us) (ds ++ gs)).all (· ≤ reachBytes) = true) (k : Nat) (t : TypeId) (d : DataW H) (ht : ts[k]? = some t) (hd : ds[k]? = some d) : light P t d := by
  refine each_light (P := P) (ts := ts ++ us) (ds := ds ++ gs) (fun n hn => ?_) k t d ?_ ?_
  · have := (List.all_eq_true.1 h) n hn
    simp only [decide_eq_true_eq] at this
    exact this
  · rw [List.getElem?_append_left (List.getElem?_eq_some_iff.1 ht).1]; exact ht
  · rw [List.getElem?_append_left (List.getElem?_eq_some_iff.1 hd).1]; exact hd

/-- A law's function, called with what reads so. -/
theorem Meets.calls {g : FuncId} {as : Array Value} {w : World} {R : Ending → World → Prop} (en : Enters P g) (h : Meets P g as w R) : Calls P g as w R := by
  rcases h with ⟨_, h⟩ | ⟨x, w', h1, _⟩
  · exact h
  · rw [en w as] at h1; cases h1
theorem law_call {f : FuncId} {G : PureG} {W : World} (en : Enters P f) (hG : PureOk P E W f G) {vs : List PV} {args : Array Value} (hl : args.size = vs.length) (ha : ∀ i, i < vs.length → RepP (cellsIn W) (vs.getD i .any) (args.getD i undef)) {b : Bool} (h : G vs GV some = some (.pv (.bool b))) :
    Calls P f args W fun e W' => e = .returned (.bool b) ∧ RowKit.Below W.heap.size W W' := by
  refine (Meets.calls en ((hG.ok vs _ h).2 ⟨E, 0, W.heap.size, fun _ => False, false, 0, W, W, []⟩ (cellsIn W) W args rfl rfl ?_ (Nat.le_refl _) (Nat.le_refl _) (RowKit.Below.refl _ _) hl ha)).mono ?_
  · intro b' o v hv
    unfold cellsIn at hv
    split at hv
    · rename_i arr T fz hh
      obtain ⟨h1, h2⟩ := Option.filter_eq_some_iff.1 hv
      exact .inl ⟨h2, arr, T, fz, hh, h1, .inl (Array.getElem?_eq_some_iff.1 hh).1⟩
    · cases hv
  · rintro e W' ⟨x, J, rfl, h1, _, _, _, h2⟩
    have h1 : RepP J (.bool b) x := h1
    cases h1
    exact ⟨rfl, h2⟩
end
end Go.Dip
end
