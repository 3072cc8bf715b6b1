/- Joined by program out of: Start, LawScriptWords. -/
import Derived.Test.YtigkblelhghjjaaGreatDoorDipG
import Derived.Test.YtigkblelhghjjaaGreatDoorDipD
import Derived.Test.YtigkblelhghjjaaGreatDoorRows
import Derived.Deep.DeepHandedRow
import Derived.Deep.DeepWitnessRowRef
import Derived.Lib.LaidIn
import Derived.Lib.LaidU8T
import Derived.Lib.LaidTab
import Derived.Stop.LaidErr
import Derived.PinnedBridge
import Derived.Carry
import Derived.OpenShut
import Derived.ProofKit
import Derived.SizedLaws
import Derived.Test.YtigkblelhghjjaaGreatDoorDipH
import Derived.Lib.SplitLaws
set_option linter.all false
/- What the row of the seat begins with: the tables that the program's beginning lays; the arguments' types. -/
section
set_option linter.unusedVariables false
namespace Go.Proofs.YtigkblelhghjjaaGreatDoor
open Go.ChangeShapes Go.WideShapes Go.ChangeAt Go.RowKit Go.Lib Go.Dip Go.Shelf
open Go.Proofs.YtigkblelhghjjaaGreatDoor.Rows (scriptWordsRow laid_unicode_utf8_first)

theorem own : ownKnob Tryz.prog.godebug = none := by kernel_rfl
theorem laidOut : laidOutB Tryz.prog = true := by kernel_rfl
theorem star : "*" ++ "errors.errorString" = "*errors.errorString" := by decide
theorem row381 (u : TypeId) (h : Tryz.prog.typeName? 3 u = some "*errors.errorString") : u = 381 :=
  typeName_ptr_named (nm := "errors.errorString") (by rw [star]; kernel_rfl) (by kernel_rfl) (by decide) u (by rw [star]; exact h)

/-- The settled world with the two errors' structs, the variables holding what their initialisers lay. -/
noncomputable def laidWorld (os : Os) : World :=
  let N := (World.settled Tryz.prog os).heap.size
  let w0 := World.holding Tryz.prog os ⟨#[.cells #[.string ⟨#[118, 97, 108, 117, 101, 32, 111, 117, 116, 32, 111, 102, 32, 114, 97, 110, 103, 101]⟩] 383, .cells #[.string ⟨#[105, 110, 118, 97, 108, 105, 100, 32, 115, 121, 110, 116, 97, 120]⟩] 383], #[], []⟩
  let put (h : Array Obj) (g : Nat) (cs : Array Value) : Array Obj := h.modify g fun
    | .cells _ t frozen => .cells cs t frozen
    | o => o
  let h0 := put (put w0.heap 4 #[.iface 381 (.pointer (some ⟨N, 0, none⟩))]) 3 #[.iface 381 (.pointer (some ⟨N + 1, 0, none⟩))]
  let h1 := put h0 1 (Lib.firstTab.map fun z => Value.int .u8 z).toArray
  let h2 := put h1 2 ((List.range 16).flatMap fun i => [Value.int .u8 (Lib.accLo i), Value.int .u8 (Lib.accHi i)]).toArray
  let h3 := put h2 5 (Lib.pow10Tab.map fun z => Value.int .u64 z).toArray
  let h4 := put h3 6 ([0, 1, 28, 2, 29, 14, 24, 3, 30, 22, 20, 15, 25, 17, 4, 8, 31, 27, 13, 23, 21, 19, 16, 7, 26, 12, 18, 6, 11, 5, 10, 9].map fun z => Value.int .u8 z).toArray
  let h5 := put h4 7 ([0, 1, 56, 2, 57, 49, 28, 3, 61, 58, 42, 50, 38, 29, 17, 4, 62, 47, 59, 36, 45, 43, 51, 22, 53, 39, 33, 30, 24, 18, 12, 5, 63, 55, 48, 27, 60, 41, 37, 16, 46, 35, 44, 21, 52, 32, 23, 11, 54, 26, 40, 15, 34, 20, 31, 10, 25, 14, 19, 9, 13, 8, 7, 6].map fun z => Value.int .u8 z).toArray
  { w0 with heap := h5 }
noncomputable abbrev N0 : Nat := (World.settled Tryz.prog default).heap.size
theorem laid_met (os : Os) (args : Array Value) : laidMet Tryz.prog scriptWordsRow.laid ((laidWorld os).forCall (fun _ _ => 0) ⟨#[], args, []⟩).memory :=
  (LaidIn.of_run (l := scriptWordsRow.laid) [6, 7, 5, 2, 4, N0, 3, N0 + 1, 1] 8 (by kernel_rfl) (by kernel_rfl) (by kernel_rfl) (by kernel_rfl)).met

/-- The types of what the laws are told, and of what is in it. -/
def types : List Nat := [9]
theorem closed : closedB tyE types = true := by kernel_rfl
theorem bytesOk : bytesB Tryz.prog tyE types = true := by kernel_rfl
set_option maxRecDepth 100000 in
theorem world_ok {W : World} (hL : laidMetH Tryz.prog scriptWordsRow.laid W) (hs : W.ShapedOpen Tryz.prog) : WOk W := by
  have h : laidMet Tryz.prog scriptWordsRow.laid W := hL
  have h2 := h.tail.tail
  have h4 := h2.tail.tail
  refine ⟨?_, ?_, ?_, ?_, ?_⟩
  · exact cell_of_shapedOpen_int (zero := #[.int .i64 0]) (t := 3) hs (of_decide_eq_true (by kernel_rfl)) (by kernel_rfl) rfl (by kernel_rfl) (by kernel_rfl) Tryz.underlying3
  · exact tabIs_of_head (g := 5) (by kernel_rfl) (by kernel_rfl) Tryz.underlying378 Tryz.underlying100 (by kernel_rfl) (by kernel_rfl) h2
  · obtain ⟨a, s, hv, _⟩ := laid_sentinel (g := 3) h4.tail (by kernel_rfl) (by kernel_rfl) Tryz.underlying102 row381 Tryz.underlying381 Tryz.underlying383 rfl rfl Tryz.underlying9 (by kernel_rfl) (by kernel_rfl)
    exact ⟨_, _, by simpa using World.var?_cell (by kernel_rfl) hv 0⟩
  · obtain ⟨a, s, hv, _⟩ := laid_sentinel (g := 4) h4 (by kernel_rfl) (by kernel_rfl) Tryz.underlying102 row381 Tryz.underlying381 Tryz.underlying383 rfl rfl Tryz.underlying9 (by kernel_rfl) (by kernel_rfl)
    exact ⟨_, _, by simpa using World.var?_cell (by kernel_rfl) hv 0⟩
  · have e1 : laid_unicode_utf8_first = firstData := Pinned.utf8First_eq
    have r1 := Lib.laidMet.reads h (List.Mem.tail _ (.tail _ (.tail _ (.tail _ (.tail _ (.tail _ (.head _)))))))
    have r2 := Lib.laidMet.reads h (List.Mem.tail _ (.tail _ (.tail _ (.head _))))
    rw [e1] at r1
    exact utf8Tabs_of_readsT (U8Types.of196 Tryz.lays196) ⟨by kernel_rfl, by kernel_rfl, by kernel_rfl, by kernel_rfl, by kernel_rfl, by kernel_rfl, by kernel_rfl⟩ r1 r2
end Go.Proofs.YtigkblelhghjjaaGreatDoor
end

/- The words of a line: the program's and the law's are the same. -/
section
set_option linter.unusedVariables false
set_option linter.unusedSimpArgs false
set_option maxRecDepth 100000
namespace Go.Dip
open Go.Proofs Go.Lib

/-! The words of a text. -/
def wl : Bytes → Bytes → List Bytes
  | cur, [] => if cur = [] then [] else [cur]
  | cur, c :: r => if c = 32 then (if cur = [] then wl [] r else cur :: wl [] r) else wl (cur ++ [c]) r
def spl (s : Bytes) : List Bytes := splitK [32] 0 (count s [32]) s
theorem spl_nil : spl [] = [[]] := by
  unfold spl
  rw [count_miss (by simp [index])]
  rfl
theorem spl_eq (l : Bytes) : spl (32 :: l) = [] :: spl l := by
  unfold spl
  rw [count_cons_eq, Nat.add_comm 1, splitK]
  have hix : index (32 :: l) [32] = ((0 : Nat) : Int) := by rw [index]; simp [List.isPrefixOf]
  rw [hix]
  simp
theorem spl_ne {b : UInt8} (h : b ≠ 32) (l : Bytes) : ∃ p ps, spl l = p :: ps ∧ spl (b :: l) = (b :: p) :: ps := by
  unfold spl
  rw [count_cons_ne b 32 l h]
  have hp : ([32] : List UInt8).isPrefixOf (b :: l) = false := by simp [List.isPrefixOf, Ne.symm h]
  have hix : index (b :: l) [32] = if index l [32] == -1 then -1 else index l [32] + 1 := by rw [index, hp]; simp
  by_cases hm : index l [32] = -1
  · rw [count_miss hm]
    exact ⟨l, [], rfl, rfl⟩
  · have hge := index_ge l [32]
    obtain ⟨i, hi⟩ : ∃ i : Nat, index l [32] = i := ⟨(index l [32]).toNat, by omega⟩
    rw [count_hit (by simp) hi, Nat.add_comm 1]
    have hne : (index l [32] == -1) = false := by simpa using hm
    rw [hne] at hix
    have h2 : index (b :: l) [32] = ((i + 1 : Nat) : Int) := by rw [hix, hi]; simp
    have hne2 : (((i + 1 : Nat) : Int) == -1) = false := by
      simp only [beq_eq_false_iff_ne, ne_eq]
      omega
    have hne3 : (((i : Nat) : Int) == -1) = false := by
      simp only [beq_eq_false_iff_ne, ne_eq]
      omega
    refine ⟨l.take i, splitK [32] 0 (count (l.drop (i + [32].length)) [32]) (l.drop (i + 1)), ?_, ?_⟩
    · rw [splitK, hi, hne3]
      simp
    · rw [splitK, h2, hne2]
      simp
def jn (cur : Bytes) : List Bytes → List Bytes
  | [] => []
  | p :: ps => (cur ++ p) :: ps
theorem jn_nil (l : List Bytes) : jn [] l = l := by cases l <;> rfl
theorem wl_spl : ∀ (s cur : Bytes), wl cur s = (jn cur (spl s)).filter fun x => !decide (x = [])
  | [], cur => by
    rw [spl_nil]
    by_cases h : cur = [] <;> simp [wl, jn, h]
  | c :: r, cur => by
    by_cases h : c = 32
    · subst h
      rw [spl_eq, wl, if_pos rfl, wl_spl r [], jn_nil]
      by_cases hc : cur = [] <;> simp [jn, hc]
    · obtain ⟨p, ps, h1, h2⟩ := spl_ne h r
      rw [h2, wl, if_neg h, wl_spl r (cur ++ [c]), h1]
      simp [jn]
theorem wkept_eq (s : Bytes) : Tryz.wkept s = wl [] s := by
  rw [wl_spl, jn_nil]
  rfl

/-! Small facts. -/
theorem lw_wrap {n : Int} (h1 : -9223372036854775808 ≤ n) (h2 : n ≤ 9223372036854775807) : IntKind.i64.wrap n = n := by
  have e : (2 : Int) ^ IntKind.i64.bits = 18446744073709551616 := by decide
  have e2 : (2 : Int) ^ (IntKind.i64.bits - 1) = 9223372036854775808 := by decide
  unfold IntKind.wrap
  simp only [e, e2, IntKind.signed, Bool.true_and, ge_iff_le, decide_eq_true_eq]
  split <;> omega
theorem lw_inI {i n : Nat} (h : i < n) : inI (i : Int) ((n : Nat) : Int) = true := by
  unfold inI
  simp
  omega
theorem lw_sub (l : Bytes) (i : Nat) : sub l (i : Int) ((i + 1 : Nat) : Int) = (l.drop i).take 1 := by
  unfold sub
  have e : ((((i + 1 : Nat) : Int)) - (i : Int)).toNat = 1 := by omega
  rw [e]
  rfl
/-! The law's words. -/
theorem words_loop {R : Type} (s : Bytes) (hs : s.length ≤ 500) (K0 : List PV → Option R) : ∀ (m k i : Nat) (cur : Bytes) (acc : List PV), i + m = s.length → m + 2 ≤ k → cur.length ≤ i → acc.length ≤ i →
    G7.L4 k s cur (i : Int) acc K0 = K0 (acc ++ (wl cur (s.drop i)).map .str)
  | 0, k, i, cur, acc, hi, hk, hc, ha => by
    obtain ⟨k, rfl⟩ : ∃ j, k = j + 2 := ⟨k - 2, by omega⟩
    have hle : leI (i : Int) ((s.length : Nat) : Int) = true := by unfold leI; simp; omega
    have hlt : ltI (i : Int) ((s.length : Nat) : Int) = false := by unfold ltI; simp; omega
    have hw : IntKind.i64.wrap ((i : Int) + 1) = ((i + 1 : Nat) : Int) := by rw [lw_wrap (by omega) (by omega)]; omega
    have hle2 : leI ((i + 1 : Nat) : Int) ((s.length : Nat) : Int) = false := by unfold leI; simp; omega
    have hd : s.drop i = [] := List.drop_of_length_le (by omega)
    have hl : leN (acc.length + 1) LIM = true := by unfold leN LIM; simp; omega
    rw [hd]
    simp only [G7.L4, hle, hlt, cond_true, cond_false, G7.J7, G7.J8, hw, hle2, hl]
    by_cases hcur : cur = []
    · subst hcur
      simp [eqS, wl]
    · simp [eqS, wl, hcur]
  | m + 1, k, i, cur, acc, hi, hk, hc, ha => by
    obtain ⟨k, rfl⟩ : ∃ j, k = j + 1 := ⟨k - 1, by omega⟩
    have hil : i < s.length := by omega
    have hle : leI (i : Int) ((s.length : Nat) : Int) = true := by unfold leI; simp; omega
    have hlt : ltI (i : Int) ((s.length : Nat) : Int) = true := by unfold ltI; simp; omega
    have hin := lw_inI hil
    have hw : IntKind.i64.wrap ((i : Int) + 1) = ((i + 1 : Nat) : Int) := by rw [lw_wrap (by omega) (by omega)]; omega
    have hd : s.drop i = s[i] :: s.drop (i + 1) := List.drop_eq_getElem_cons hil
    have hg : s.getD (i : Int).toNat 0 = s[i] := by simp [List.getD_eq_getElem?_getD, hil]
    have hir : inR (i : Int) ((i + 1 : Nat) : Int) ((s.length : Nat) : Int) = true := by unfold inR; simp; omega
    have hsb : sub s (i : Int) ((i + 1 : Nat) : Int) = [s[i]] := by rw [lw_sub, hd]; rfl
    have hl : leN (acc.length + 1) LIM = true := by unfold leN LIM; simp; omega
    have hl2 : leN (cur.length + [s[i]].length) LIM = true := by unfold leN LIM; simp; omega
    have ih := words_loop s hs K0 m k (i + 1)
    rw [hd]
    simp only [G7.L4, hle, hlt, hin, cond_true, cond_false, G7.J7, G7.J8, hw, hg, hir, hsb, hl, hl2]
    by_cases h32 : s[i] = 32
    · have he : eqI ((s[i]).toNat : Int) 32 = true := by rw [h32]; decide
      simp only [he, Bool.not_true, cond_false]
      by_cases hcur : cur = []
      · subst hcur
        have := ih [] acc (by omega) (by omega) (by simp) (by omega)
        simp only [eqS, decide_true, Bool.not_true, cond_false]
        rw [this, h32, wl, if_pos rfl, if_pos rfl]
      · have := ih [] (acc ++ [.str cur]) (by omega) (by omega) (by simp) (by simp; omega)
        simp only [eqS, decide_eq_false hcur, Bool.not_false, cond_true]
        rw [this, h32, wl, if_pos rfl, if_neg hcur]
        simp
    · have he : eqI ((s[i]).toNat : Int) 32 = false := by
        unfold eqI
        simp only [decide_eq_false_iff_not]
        intro e
        apply h32
        have h4 : (32 : UInt8).toNat = 32 := rfl
        apply UInt8.toNat.inj
        omega
      have := ih (cur ++ [s[i]]) acc (by omega) (by omega) (by simp; omega) (by omega)
      simp only [he, Bool.not_false, cond_true]
      rw [this, wl, if_neg h32]
theorem words_plain {R : Type} (s : Bytes) (hs : s.length ≤ 500) (K : List PV → Option R) : G7.F 600 s K = K ((wl [] s).map .str) := by
  have := words_loop s hs (fun y => K y) s.length 599 0 [] [] (by omega) (by omega) (by simp) (by simp)
  simpa [G7.F] using this
/-! Lists of texts, the same. -/
theorem same_loop {R : Type} (ws : List Bytes) (hs : ws.length ≤ 1000) (K0 : Option R) (Kr : Bool → Option R) : ∀ (m k i : Nat), i + m = ws.length → m + 1 ≤ k →
    G5.L4 k (ws.map .str) (ws.map .str) (i : Int) K0 Kr = K0
  | 0, k, i, hi, hk => by
    obtain ⟨k, rfl⟩ : ∃ j, k = j + 1 := ⟨k - 1, by omega⟩
    have hlt : ltI (i : Int) (((ws.map PV.str).length : Nat) : Int) = false := by unfold ltI; simp; omega
    simp only [G5.L4, hlt, cond_false]
  | m + 1, k, i, hi, hk => by
    obtain ⟨k, rfl⟩ : ∃ j, k = j + 1 := ⟨k - 1, by omega⟩
    have hil : i < ws.length := by omega
    have hlt : ltI (i : Int) (((ws.map PV.str).length : Nat) : Int) = true := by unfold ltI; simp; omega
    have hin : inI (i : Int) (((ws.map PV.str).length : Nat) : Int) = true := lw_inI (by simpa using hil)
    have hw : IntKind.i64.wrap ((i : Int) + 1) = ((i + 1 : Nat) : Int) := by rw [lw_wrap (by omega) (by omega)]; omega
    have hp : pcell (pat (ws.map PV.str) (i : Int)) 0 = .str ws[i] := by
      have : pat (ws.map PV.str) (i : Int) = .str ws[i] := by simp [pat, List.getD_eq_getElem?_getD, hil]
      rw [this]
      rfl
    simp only [G5.L4, hlt, hin, cond_true, hp, isStr, strOf, eqS, decide_true, Bool.not_true, cond_false, hw]
    exact same_loop ws hs K0 Kr m k (i + 1) (by omega) (by omega)
theorem same_plain {R : Type} (ws : List Bytes) (hs : ws.length ≤ 1000) (K : Bool → Option R) : G5.F 1100 (ws.map .str) (ws.map .str) K = K true := by
  have h := same_loop ws hs (K true) (fun y => K y) ws.length 1099 0 (by omega) (by omega)
  have e : eqI (((ws.map PV.str).length : Nat) : Int) (((ws.map PV.str).length : Nat) : Int) = true := by unfold eqI; simp
  simp only [G5.F, e, Bool.not_true, cond_false]
  exact h
theorem wl_length : ∀ (s cur : Bytes), (wl cur s).length ≤ s.length + 1
  | [], cur => by
    simp only [wl]
    split <;> simp
  | c :: r, cur => by
    simp only [wl]
    have h1 := wl_length r []
    have h2 := wl_length r (cur ++ [c])
    split
    · split
      · simp only [List.length_cons]; omega
      · simp only [List.length_cons]; omega
    · simp only [List.length_cons]; omega

/-! The law's function. -/
theorem run_shown : runP fnsT tyE libN mem15 60 4 [] = some (.pv (.bool true)) := by kernel_rfl
noncomputable section
variable {W0 : World}
theorem shown_fn (hW : WOk W0) : PureFn Tryz.prog tyE W0 4 [] (.pv (.bool true)) := (memo_of tyOk fnsOk (mem15_ok hW) (fun ρ hρ => libN_ok hW ρ hρ) run_shown).1
theorem same_fn (hW : WOk W0) (ws : List Bytes) (hs : ws.length ≤ 1000) : PureFn Tryz.prog tyE W0 5 [.sl 1 (ws.map .str), .sl 1 (ws.map .str)] (.pv (.bool true)) :=
  (G5.ok hW 1100).ok _ _ (by
    show (bif fitArgs G5.ks [.sl 1 (ws.map .str), .sl 1 (ws.map .str)] then G5.A 1100 [.sl 1 (ws.map .str), .sl 1 (ws.map .str)] GV some else none) = _
    have : fitArgs G5.ks [.sl 1 (ws.map .str), .sl 1 (ws.map .str)] = true := rfl
    rw [this, cond_true]
    exact same_plain ws hs _)
theorem words_fn (hW : WOk W0) (s : Bytes) (hs : s.length ≤ 500) : PureFn Tryz.prog tyE W0 7 [.str s] (.pv (.sl 1 ((wl [] s).map .str))) :=
  (G7.ok hW 600).ok _ _ (by
    show (bif fitArgs G7.ks [.str s] then G7.A 600 [.str s] GV some else none) = _
    have : fitArgs G7.ks [.str s] = true := rfl
    rw [this, cond_true]
    exact words_plain s hs _)
theorem swords_fn (hW : WOk W0) (s : Bytes) (hs : s.length ≤ 500) : PureFn Tryz.prog tyE W0 6 [.str s] (.pv (.sl 1 ((wl [] s).map .str))) := by
  obtain ⟨m, hm⟩ := hW.len
  have hz : tyE.sz 9 = 1 := by kernel_rfl
  have := PureFn.row (P := Tryz.prog) (E := tyE) (W0 := W0) (f := 6) (args := [.str s]) (e := 9) (es := (wl [] s).map .str) (by kernel_rfl) (enters_of Tryz.func6 (by kernel_rfl) (by kernel_rfl)) fun I w aa hb hl ha => ?_
  · rw [hz] at this
    exact this
  · have e0 := repStr (ha 0 (by simp))
    have has : aa = #[encStr s] := by
      obtain ⟨l⟩ := aa
      match l, hl with
      | [x], _ =>
        simp at e0
        rw [e0]
    rw [has, hz]
    refine (Tryz.words6 s m w (by omega) (cell_below hb hm)).mono ?_
    rintro e w' ⟨x, rfl, h1, h2⟩
    rw [wkept_eq] at h1
    refine ⟨x, _, rfl, by simpa using h1, fun i hi => ?_, h2⟩
    have hi' : i < (wl [] s).length := by simpa using hi
    refine ⟨by simp [hi', PV.cnt], fun j hj => ?_⟩
    obtain rfl : j = 0 := by omega
    simp [hi', pcell, encStr]
    exact ⟨.str _, rfl⟩
/-- Entries that are told by one argument list. -/
theorem PureOk.of1 {P : Program} {E : Env} {f : FuncId} {F : PureG} (h : ∀ us, (∀ R K, F us R K = none) ∨ ∃ v, (∀ R K, F us R K = K v) ∧ PureFn P E W0 f us v) : PureOk P E W0 f F := by
  refine ⟨fun us R K => ?_, fun us v hv => ?_⟩
  · rcases h us with k | ⟨v, k, _⟩
    · rw [k, k]; rfl
    · rw [k, k]; rfl
  · rcases h us with k | ⟨u, k, k2⟩
    · rw [k] at hv; cases hv
    · rw [k] at hv
      injection hv with hv
      exact hv ▸ k2
def e4 : PureG := fun us R K => match us with
  | [] => K (.pv (.bool true))
  | _ => none
def eW : PureG := fun us R K => match us with
  | [.str s] => bif Nat.ble s.length 500 then K (.pv (.sl 1 ((wl [] s).map .str))) else none
  | _ => none
def strsEq (a b : List PV) : Bool := a.all isStr && (Nat.ble a.length 1000 && eqL (eqP 60) a b)
def e5 : PureG := fun us R K => match us with
  | [.sl 1 a, .sl 1 b] => bif strsEq a b then K (.pv (.bool true)) else none
  | _ => none
theorem strs_of : ∀ {a : List PV}, a.all isStr = true → ∃ ws : List Bytes, a = ws.map .str
  | [], _ => ⟨[], rfl⟩
  | x :: a, h => by
    simp only [List.all_cons, Bool.and_eq_true] at h
    obtain ⟨ws, hw⟩ := strs_of h.2
    obtain ⟨s, hs⟩ : ∃ s, x = .str s := by cases x <;> first | exact ⟨_, rfl⟩ | (simp [isStr] at h)
    exact ⟨s :: ws, by rw [hs, hw]; rfl⟩
theorem strsEq_self (ws : List Bytes) (h : ws.length ≤ 1000) : strsEq (ws.map .str) (ws.map .str) = true := by
  have h1 : (ws.map PV.str).all isStr = true := by simp [isStr]
  have h2 : Nat.ble (ws.map PV.str).length 1000 = true := by rw [Nat.ble_eq]; simpa using h
  have h3 : eqL (eqP 60) (ws.map PV.str) (ws.map PV.str) = true := by
    clear h h1 h2
    induction ws with
    | nil => rfl
    | cons s l ih =>
      simp only [List.map_cons, eqL, Bool.and_eq_true]
      exact ⟨by simp [eqP], ih⟩
  rw [strsEq, h1, h2, h3]
  rfl
def rho3 : RhoF := rp 4 e4 <| rp 6 eW <| rp 7 eW <| rp 5 e5 rnil
theorem rho3_ok (hW : WOk W0) : RhoAll Tryz.prog tyE tyB W0 rho3 := by
  refine PureOk.all ?_ (PureOk.all ?_ (PureOk.all ?_ (PureOk.all ?_ rnil_all)))
  · refine PureOk.of1 fun us => ?_
    unfold e4
    split
    · exact .inr ⟨_, fun R K => rfl, shown_fn hW⟩
    · exact .inl fun R K => rfl
  · refine PureOk.of1 fun us => ?_
    unfold eW
    split
    · rename_i s
      cases hb : Nat.ble s.length 500
      · exact .inl fun R K => rfl
      · exact .inr ⟨_, fun R K => rfl, swords_fn hW s (Nat.le_of_ble_eq_true hb)⟩
    · exact .inl fun R K => rfl
  · refine PureOk.of1 fun us => ?_
    unfold eW
    split
    · rename_i s
      cases hb : Nat.ble s.length 500
      · exact .inl fun R K => rfl
      · exact .inr ⟨_, fun R K => rfl, words_fn hW s (Nat.le_of_ble_eq_true hb)⟩
    · exact .inl fun R K => rfl
  · refine PureOk.of1 fun us => ?_
    unfold e5
    split
    · rename_i a b
      cases hb : strsEq a b
      · exact .inl fun R K => rfl
      · simp only [strsEq, Bool.and_eq_true, Nat.ble_eq] at hb
        obtain ⟨h1, h2, h3⟩ := hb
        have h4 := eqL_eq (eqP_eq 60) _ _ h3
        subst h4
        obtain ⟨ws, rfl⟩ := strs_of h1
        exact .inr ⟨_, fun R K => rfl, same_fn hW ws (by simpa using h2)⟩
    · exact .inl fun R K => rfl
theorem f3_run (s : Bytes) : execPure tyE (rho3 GV) (lamN tyE Tryz.f3.ntmps (rho3 GV) (lsOf (codeOf Tryz.f3)) 0) Tryz.f3 [.str s] some =
    bif gtI ((s.length : Nat) : Int) 500 then some (.pv (.bool true)) else bif Nat.ble s.length 500 then (bif Nat.ble s.length 500 then (bif strsEq ((wl [] s).map .str) ((wl [] s).map .str) then some (.pv (.bool true)) else none) else none) else none := by kernel_rfl
theorem law_fn (hW : WOk W0) (s : Bytes) : PureFn Tryz.prog tyE W0 3 [.str s] (.pv (.bool true)) := by
  have hc : Tryz.f3.body = some (codeOf Tryz.f3) := by kernel_rfl
  refine (FnOk.pure tyOk (rho3_ok hW) fnOk3 hc 0).ok [.str s] _ ?_
  show execPure tyE (rho3 GV) (lamN tyE Tryz.f3.ntmps (rho3 GV) (lsOf (codeOf Tryz.f3)) 0) Tryz.f3 [.str s] some = _
  rw [f3_run]
  by_cases h : s.length ≤ 500
  · have h1 : gtI ((s.length : Nat) : Int) 500 = false := by unfold gtI; simp; omega
    have h2 : Nat.ble s.length 500 = true := by rw [Nat.ble_eq]; exact h
    have h3 := wl_length s []
    rw [h1, h2, strsEq_self _ (by omega)]
    rfl
  · have h1 : gtI ((s.length : Nat) : Int) 500 = true := by unfold gtI; simp; omega
    rw [h1]
    rfl
def lawG : PureG := fun us R K => match us with
  | [.str s] => K (.pv (.bool true))
  | _ => none
theorem lawG_ok (hW : WOk W0) : PureOk Tryz.prog tyE W0 3 lawG := by
  refine PureOk.of1 fun us => ?_
  unfold lawG
  split
  · rename_i s
    exact .inr ⟨_, fun R K => rfl, law_fn hW s⟩
  · exact .inl fun R K => rfl
theorem LawScriptWords.law : ∀ x0, IsT tyE 9 x0 → lawG [x0] GV some = some (.pv (.bool true)) := by
  intro x0 h0
  have h9 : tyE.ty 9 = .str := by kernel_rfl
  cases h0 with
  | str _ _ => rfl
  | int h _ _ => rw [h9] at h; cases h
  | bool h => rw [h9] at h; cases h
  | sl h _ _ => rw [h9] at h; cases h
  | agg h _ _ => rw [h9] at h; cases h
theorem LawScriptWords.ok (hW : WOk W0) : PureOk Tryz.prog tyE W0 3 lawG := lawG_ok hW
end
end Go.Dip
end
