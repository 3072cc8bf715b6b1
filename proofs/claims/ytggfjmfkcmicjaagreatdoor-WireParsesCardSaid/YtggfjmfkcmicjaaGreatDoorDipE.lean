/- Joined by program out of: Fun0. -/
import Derived.Test.YtggfjmfkcmicjaaGreatDoorDipD
import Derived.KernelRfl
set_option linter.all false
/- Printed by program: the functions of a seat, plainly, and that they are what the evaluator says. -/
section
set_option linter.unusedVariables false
set_option maxRecDepth 100000
namespace Go.Dip
open Go.Proofs
noncomputable section
def G87.F {R : Type} : Nat → PV → (Bool → Option R) → Option R
  | 0, _, _ => none
  | k + 1, a1, K => bif PV.isAgg 5 a1 then bif isStr (pcell a1 0) then K (eqS (strOf (pcell a1 0)) ([116, 101, 120, 116] : Bytes)) else none else none
def G87.ks : List AK := [.pv]
def G87.A (k : Nat) : List PV → Cps GV := fun vs R K => G87.F k (vs.getD 0 .any) (fun r1 => K (GV.pv (PV.bool r1)))
def G87.G (k : Nat) : PureG := argG G87.ks (G87.A k)
def G87.c : Code := Tryz.f87.body.getD .skip
def G87.rho (k : Nat) : RhoF := rnil
def G87.ls : List LoopE := []
def G87.cs : List CutE := []
theorem G87.tower : Tower tyE Tryz.f87.ntmps G87.c G87.rho G87.ls G87.cs := tower_of AllL.nil AllL.nil
theorem G87.body : Tryz.f87.body = some G87.c := by kernel_rfl
theorem G87.name : (Tryz.f87.name == "runtime.NumGoroutine") = false := by kernel_rfl
theorem G87.tF (k : Nat) (vs : List PV) (R : Type) (K : GV → Option R) : G87.A (k + 1) vs R K = execPure tyE (G87.rho k R) (lam tyE k G87.cs G87.ls R) Tryz.f87 (canonArgs G87.ks 0 vs) K := by kernel_rfl
theorem G87.zero {W0 : World} : PureOk Tryz.prog tyE W0 87 (G87.G 0) := pureOk_none (enters_of Tryz.func87 G87.name (by rw [G87.body]; rfl)) (argG_none fun _ _ _ => by kernel_rfl)
theorem G87.step {W0 : World} (k : Nat) (h : ∀ j, j ≤ k → RhoAll Tryz.prog tyE tyB W0 (G87.rho j)) : PureOk Tryz.prog tyE W0 87 (G87.G (k + 1)) := G87.tower.pure tyOk Tryz.func87 G87.body G87.name h (argG_ok (G87.tF k))
theorem G87.all {W0 : World} (hW : WOk W0) (j : Nat) : RhoAll Tryz.prog tyE tyB W0 (G87.rho j) := rnil_all
theorem G87.ok {W0 : World} (hW : WOk W0) : ∀ k, PureOk Tryz.prog tyE W0 87 (G87.G k)
  | 0 => G87.zero
  | k + 1 => G87.step k fun j _ => G87.all hW j
def G37.F {R : Type} : Nat → List UInt8 → (Bool → Option R) → Option R
  | 0, _, _ => none
  | k + 1, a1, K => lTrim a1 ([97, 98, 99, 100, 101, 102, 103, 104, 105, 106, 107, 108, 109, 110, 111, 112, 113, 114, 115, 116, 117, 118, 119, 120, 121, 122] : Bytes) (fun r2 => bif eqS r2 ([] : Bytes) then bif !eqS a1 ([] : Bytes) then bif leI ((a1.length : Nat) : Int) 8 then K (!eqS a1 ([116, 101, 120, 116] : Bytes)) else K false else K false else K false)
def G37.ks : List AK := [.str]
def G37.A (k : Nat) : List PV → Cps GV := fun vs R K => G37.F k (strOf (vs.getD 0 .any)) (fun r1 => K (GV.pv (PV.bool r1)))
def G37.G (k : Nat) : PureG := argG G37.ks (G37.A k)
def G37.c : Code := Tryz.f37.body.getD .skip
def G37.rho (k : Nat) : RhoF := (rp 66 G66.G rnil)
def G37.ls : List LoopE := []
def G37.cs : List CutE := []
theorem G37.tower : Tower tyE Tryz.f37.ntmps G37.c G37.rho G37.ls G37.cs := tower_of AllL.nil AllL.nil
theorem G37.body : Tryz.f37.body = some G37.c := by kernel_rfl
theorem G37.name : (Tryz.f37.name == "runtime.NumGoroutine") = false := by kernel_rfl
theorem G37.tF (k : Nat) (vs : List PV) (R : Type) (K : GV → Option R) : G37.A (k + 1) vs R K = execPure tyE (G37.rho k R) (lam tyE k G37.cs G37.ls R) Tryz.f37 (canonArgs G37.ks 0 vs) K := by kernel_rfl
theorem G37.zero {W0 : World} : PureOk Tryz.prog tyE W0 37 (G37.G 0) := pureOk_none (enters_of Tryz.func37 G37.name (by rw [G37.body]; rfl)) (argG_none fun _ _ _ => by kernel_rfl)
theorem G37.step {W0 : World} (k : Nat) (h : ∀ j, j ≤ k → RhoAll Tryz.prog tyE tyB W0 (G37.rho j)) : PureOk Tryz.prog tyE W0 37 (G37.G (k + 1)) := G37.tower.pure tyOk Tryz.func37 G37.body G37.name h (argG_ok (G37.tF k))
theorem G37.all {W0 : World} (hW : WOk W0) (j : Nat) : RhoAll Tryz.prog tyE tyB W0 (G37.rho j) := ((G66.ok hW).all rnil_all)
theorem G37.ok {W0 : World} (hW : WOk W0) : ∀ k, PureOk Tryz.prog tyE W0 37 (G37.G k)
  | 0 => G37.zero
  | k + 1 => G37.step k fun j _ => G37.all hW j
def G88.L2 {R : Type} : Nat → List PV → List PV → Int → Int → Option R → (Bool → Option R) → Option R
  | 0, _, _, _, _, _, _ => none
  | k + 1, x1, x2, x3, x4, K0, Kr => bif ltI x4 x3 then bif inI x4 ((x2.length : Nat) : Int) then bif (isStr (pcell (pat x2 x4) 0) && true) then G37.F k (strOf (pcell (pat x2 x4) 0)) (fun r5 => bif !r5 then Kr false else bif gtI x4 0 then bif inI (IntKind.i64.wrap (x4 - 1)) ((x1.length : Nat) : Int) then bif isStr (pcell (pat x2 x4) 0) then bif isStr (pcell (pat x1 (IntKind.i64.wrap (x4 - 1))) 0) then bif (Op.bytesLess (strOf (pcell (pat x2 x4) 0)) (strOf (pcell (pat x1 (IntKind.i64.wrap (x4 - 1))) 0)) || eqS (strOf (pcell (pat x2 x4) 0)) (strOf (pcell (pat x1 (IntKind.i64.wrap (x4 - 1))) 0))) then Kr false else G88.L2 k x1 x2 x3 (IntKind.i64.wrap (x4 + 1)) K0 Kr else none else none else none else G88.L2 k x1 x2 x3 (IntKind.i64.wrap (x4 + 1)) K0 Kr) else none else none else K0
def G88.F {R : Type} : Nat → List PV → (Bool → Option R) → Option R
  | 0, _, _ => none
  | k + 1, a1, K => G88.L2 k a1 a1 ((a1.length : Nat) : Int) 0 ( K true) (fun y2 => K y2)
def G88.ks : List AK := [.sl 1]
def G88.A (k : Nat) : List PV → Cps GV := fun vs R K => G88.F k (slOf (vs.getD 0 .any)) (fun r1 => K (GV.pv (PV.bool r1)))
def G88.G (k : Nat) : PureG := argG G88.ks (G88.A k)
def G88.c : Code := Tryz.f88.body.getD .skip
def G88.rho (k : Nat) : RhoF := (rp 37 (G37.G k) rnil)
def G88.sL2 : Shape := ⟨[(0, .sl 1), (5, .sl 1), (6, .int .i64), (7, .int .i64)], [], []⟩
def G88.xL2_0 : Shape := ⟨[], [], []⟩
def G88.xL2_r : Shape := ⟨[(2, .bool)], [], []⟩
def G88.mL2 : Exit → St → St := maskOf tyE [(0, G88.xL2_0)] G88.xL2_r noSh
def G88.eL2 : LoopE := ⟨2, G88.sL2, G88.mL2, fun k vs R K => G88.L2 k (slOf (vs.getD 0 .any)) (slOf (vs.getD 1 .any)) (intOf (vs.getD 2 .any)) (intOf (vs.getD 3 .any)) (K (.exit 0) (G88.xL2_0.build [])) (fun y0 => K (.ret) (G88.xL2_r.build [PV.bool y0]))⟩
def G88.ls : List LoopE := [G88.eL2]
def G88.cs : List CutE := []
theorem G88.tL2 (k : Nat) (vs : List PV) (R : Type) (K : Exit → St → Option R) : G88.eL2.L (k + 1) vs R K = exec tyE Tryz.f88.ntmps (G88.rho k R) (lam tyE k G88.cs G88.ls R) (loopAt G88.c 2) (G88.sL2.build vs) (loopK tyE G88.eL2 k K) := by kernel_rfl
theorem G88.tower : Tower tyE Tryz.f88.ntmps G88.c G88.rho G88.ls G88.cs := tower_of (AllL.cons ⟨by kernel_rfl, fun _ _ _ => by kernel_rfl, maskOf_weak tyE [(0, G88.xL2_0)] G88.xL2_r noSh, G88.tL2⟩ AllL.nil) AllL.nil
theorem G88.body : Tryz.f88.body = some G88.c := by kernel_rfl
theorem G88.name : (Tryz.f88.name == "runtime.NumGoroutine") = false := by kernel_rfl
theorem G88.tF (k : Nat) (vs : List PV) (R : Type) (K : GV → Option R) : G88.A (k + 1) vs R K = execPure tyE (G88.rho k R) (lam tyE k G88.cs G88.ls R) Tryz.f88 (canonArgs G88.ks 0 vs) K := by kernel_rfl
theorem G88.zero {W0 : World} : PureOk Tryz.prog tyE W0 88 (G88.G 0) := pureOk_none (enters_of Tryz.func88 G88.name (by rw [G88.body]; rfl)) (argG_none fun _ _ _ => by kernel_rfl)
theorem G88.step {W0 : World} (k : Nat) (h : ∀ j, j ≤ k → RhoAll Tryz.prog tyE tyB W0 (G88.rho j)) : PureOk Tryz.prog tyE W0 88 (G88.G (k + 1)) := G88.tower.pure tyOk Tryz.func88 G88.body G88.name h (argG_ok (G88.tF k))
theorem G88.all {W0 : World} (hW : WOk W0) (j : Nat) : RhoAll Tryz.prog tyE tyB W0 (G88.rho j) := ((G37.ok hW j).all rnil_all)
theorem G88.ok {W0 : World} (hW : WOk W0) : ∀ k, PureOk Tryz.prog tyE W0 88 (G88.G k)
  | 0 => G88.zero
  | k + 1 => G88.step k fun j _ => G88.all hW j
def G38.F {R : Type} : Nat → List UInt8 → (Bool → Option R) → Option R
  | 0, _, _ => none
  | k + 1, a1, K => bif leI ((a1.length : Nat) : Int) 40 then lValid a1 (fun r2 => K r2) else K false
def G38.ks : List AK := [.str]
def G38.A (k : Nat) : List PV → Cps GV := fun vs R K => G38.F k (strOf (vs.getD 0 .any)) (fun r1 => K (GV.pv (PV.bool r1)))
def G38.G (k : Nat) : PureG := argG G38.ks (G38.A k)
def G38.c : Code := Tryz.f38.body.getD .skip
def G38.rho (k : Nat) : RhoF := (rp 67 G67.G rnil)
def G38.ls : List LoopE := []
def G38.cs : List CutE := []
theorem G38.tower : Tower tyE Tryz.f38.ntmps G38.c G38.rho G38.ls G38.cs := tower_of AllL.nil AllL.nil
theorem G38.body : Tryz.f38.body = some G38.c := by kernel_rfl
theorem G38.name : (Tryz.f38.name == "runtime.NumGoroutine") = false := by kernel_rfl
theorem G38.tF (k : Nat) (vs : List PV) (R : Type) (K : GV → Option R) : G38.A (k + 1) vs R K = execPure tyE (G38.rho k R) (lam tyE k G38.cs G38.ls R) Tryz.f38 (canonArgs G38.ks 0 vs) K := by kernel_rfl
theorem G38.zero {W0 : World} : PureOk Tryz.prog tyE W0 38 (G38.G 0) := pureOk_none (enters_of Tryz.func38 G38.name (by rw [G38.body]; rfl)) (argG_none fun _ _ _ => by kernel_rfl)
theorem G38.step {W0 : World} (k : Nat) (h : ∀ j, j ≤ k → RhoAll Tryz.prog tyE tyB W0 (G38.rho j)) : PureOk Tryz.prog tyE W0 38 (G38.G (k + 1)) := G38.tower.pure tyOk Tryz.func38 G38.body G38.name h (argG_ok (G38.tF k))
theorem G38.all {W0 : World} (hW : WOk W0) (j : Nat) : RhoAll Tryz.prog tyE tyB W0 (G38.rho j) := ((G67.ok hW).all rnil_all)
theorem G38.ok {W0 : World} (hW : WOk W0) : ∀ k, PureOk Tryz.prog tyE W0 38 (G38.G k)
  | 0 => G38.zero
  | k + 1 => G38.step k fun j _ => G38.all hW j
def G125.L4 {R : Type} : Nat → List PV → List PV → Int → Int → Option R → (Bool → Option R) → Option R
  | 0, _, _, _, _, _, _ => none
  | k + 1, x1, x2, x3, x4, K0, Kr => bif ltI x4 x3 then bif inI x4 ((x1.length : Nat) : Int) then bif inI x4 ((x2.length : Nat) : Int) then bif isStr (pcell (pat x1 x4) 0) then bif isStr (pcell (pat x2 x4) 0) then bif !eqS (strOf (pcell (pat x1 x4) 0)) (strOf (pcell (pat x2 x4) 0)) then Kr false else G125.L4 k x1 x2 x3 (IntKind.i64.wrap (x4 + 1)) K0 Kr else none else none else none else none else K0
def G125.F {R : Type} : Nat → List PV → List PV → (Bool → Option R) → Option R
  | 0, _, _, _ => none
  | k + 1, a1, a2, K => bif !eqI ((a1.length : Nat) : Int) ((a2.length : Nat) : Int) then K false else G125.L4 k a1 a2 ((a1.length : Nat) : Int) 0 ( K true) (fun y3 => K y3)
def G125.ks : List AK := [.sl 1, .sl 1]
def G125.A (k : Nat) : List PV → Cps GV := fun vs R K => G125.F k (slOf (vs.getD 0 .any)) (slOf (vs.getD 1 .any)) (fun r1 => K (GV.pv (PV.bool r1)))
def G125.G (k : Nat) : PureG := argG G125.ks (G125.A k)
def G125.c : Code := Tryz.f125.body.getD .skip
def G125.rho (k : Nat) : RhoF := rnil
def G125.sL4 : Shape := ⟨[(0, .sl 1), (1, .sl 1), (12, .int .i64), (13, .int .i64)], [], []⟩
def G125.xL4_0 : Shape := ⟨[], [], []⟩
def G125.xL4_r : Shape := ⟨[(4, .bool)], [], []⟩
def G125.mL4 : Exit → St → St := maskOf tyE [(0, G125.xL4_0)] G125.xL4_r noSh
def G125.eL4 : LoopE := ⟨4, G125.sL4, G125.mL4, fun k vs R K => G125.L4 k (slOf (vs.getD 0 .any)) (slOf (vs.getD 1 .any)) (intOf (vs.getD 2 .any)) (intOf (vs.getD 3 .any)) (K (.exit 0) (G125.xL4_0.build [])) (fun y0 => K (.ret) (G125.xL4_r.build [PV.bool y0]))⟩
def G125.ls : List LoopE := [G125.eL4]
def G125.cs : List CutE := []
theorem G125.tL4 (k : Nat) (vs : List PV) (R : Type) (K : Exit → St → Option R) : G125.eL4.L (k + 1) vs R K = exec tyE Tryz.f125.ntmps (G125.rho k R) (lam tyE k G125.cs G125.ls R) (loopAt G125.c 4) (G125.sL4.build vs) (loopK tyE G125.eL4 k K) := by kernel_rfl
theorem G125.tower : Tower tyE Tryz.f125.ntmps G125.c G125.rho G125.ls G125.cs := tower_of (AllL.cons ⟨by kernel_rfl, fun _ _ _ => by kernel_rfl, maskOf_weak tyE [(0, G125.xL4_0)] G125.xL4_r noSh, G125.tL4⟩ AllL.nil) AllL.nil
theorem G125.body : Tryz.f125.body = some G125.c := by kernel_rfl
theorem G125.name : (Tryz.f125.name == "runtime.NumGoroutine") = false := by kernel_rfl
theorem G125.tF (k : Nat) (vs : List PV) (R : Type) (K : GV → Option R) : G125.A (k + 1) vs R K = execPure tyE (G125.rho k R) (lam tyE k G125.cs G125.ls R) Tryz.f125 (canonArgs G125.ks 0 vs) K := by kernel_rfl
theorem G125.zero {W0 : World} : PureOk Tryz.prog tyE W0 125 (G125.G 0) := pureOk_none (enters_of Tryz.func125 G125.name (by rw [G125.body]; rfl)) (argG_none fun _ _ _ => by kernel_rfl)
theorem G125.step {W0 : World} (k : Nat) (h : ∀ j, j ≤ k → RhoAll Tryz.prog tyE tyB W0 (G125.rho j)) : PureOk Tryz.prog tyE W0 125 (G125.G (k + 1)) := G125.tower.pure tyOk Tryz.func125 G125.body G125.name h (argG_ok (G125.tF k))
theorem G125.all {W0 : World} (hW : WOk W0) (j : Nat) : RhoAll Tryz.prog tyE tyB W0 (G125.rho j) := rnil_all
theorem G125.ok {W0 : World} (hW : WOk W0) : ∀ k, PureOk Tryz.prog tyE W0 125 (G125.G k)
  | 0 => G125.zero
  | k + 1 => G125.step k fun j _ => G125.all hW j
def G89.F {R : Type} : Nat → PV → PV → (Bool → Option R) → Option R
  | 0, _, _, _ => none
  | k + 1, a1, a2, K => bif PV.isAgg 5 a1 then bif PV.isAgg 5 a2 then G87.F k (PV.agg [pcell a1 0, pcell a1 1, pcell a1 2, pcell a1 3, pcell a1 4]) (fun r3 => bif r3 then G87.F k (PV.agg [pcell a2 0, pcell a2 1, pcell a2 2, pcell a2 3, pcell a2 4]) (fun r4 => bif r4 then bif (isSl 1 (pcell a1 2) && (isSl 1 (pcell a2 2) && true)) then G125.F k (slOf (pcell a1 2)) (slOf (pcell a2 2)) (fun r5 => K r5) else none else K false) else K false) else none else none
def G89.ks : List AK := [.pv, .pv]
def G89.A (k : Nat) : List PV → Cps GV := fun vs R K => G89.F k (vs.getD 0 .any) (vs.getD 1 .any) (fun r1 => K (GV.pv (PV.bool r1)))
def G89.G (k : Nat) : PureG := argG G89.ks (G89.A k)
def G89.c : Code := Tryz.f89.body.getD .skip
def G89.rho (k : Nat) : RhoF := (rp 87 (G87.G k) (rp 125 (G125.G k) rnil))
def G89.ls : List LoopE := []
def G89.cs : List CutE := []
theorem G89.tower : Tower tyE Tryz.f89.ntmps G89.c G89.rho G89.ls G89.cs := tower_of AllL.nil AllL.nil
theorem G89.body : Tryz.f89.body = some G89.c := by kernel_rfl
theorem G89.name : (Tryz.f89.name == "runtime.NumGoroutine") = false := by kernel_rfl
theorem G89.tF (k : Nat) (vs : List PV) (R : Type) (K : GV → Option R) : G89.A (k + 1) vs R K = execPure tyE (G89.rho k R) (lam tyE k G89.cs G89.ls R) Tryz.f89 (canonArgs G89.ks 0 vs) K := by kernel_rfl
theorem G89.zero {W0 : World} : PureOk Tryz.prog tyE W0 89 (G89.G 0) := pureOk_none (enters_of Tryz.func89 G89.name (by rw [G89.body]; rfl)) (argG_none fun _ _ _ => by kernel_rfl)
theorem G89.step {W0 : World} (k : Nat) (h : ∀ j, j ≤ k → RhoAll Tryz.prog tyE tyB W0 (G89.rho j)) : PureOk Tryz.prog tyE W0 89 (G89.G (k + 1)) := G89.tower.pure tyOk Tryz.func89 G89.body G89.name h (argG_ok (G89.tF k))
theorem G89.all {W0 : World} (hW : WOk W0) (j : Nat) : RhoAll Tryz.prog tyE tyB W0 (G89.rho j) := ((G87.ok hW j).all ((G125.ok hW j).all rnil_all))
theorem G89.ok {W0 : World} (hW : WOk W0) : ∀ k, PureOk Tryz.prog tyE W0 89 (G89.G k)
  | 0 => G89.zero
  | k + 1 => G89.step k fun j _ => G89.all hW j
def G63.J13 {R : Type} (k : Nat) (p_G63_L14 : PV → Int → Int → PV → PV → PV → PV → PV → Option R → (Bool → Option R) → Option R) (x1 : PV) (x2 : PV) (x3 : PV) (x4 : PV) (x5 : PV) (Kr : (Bool → Option R)) : Option R := bif isSl 5 x5 then p_G63_L14 x5 (((slOf x5).length : Nat) : Int) 0 x1 x2 x3 x4 x5 ( Kr true) (fun y6 => Kr y6) else none
mutual
def G63.F {R : Type} : Nat → PV → (Bool → Option R) → Option R
  | 0, _, _ => none
  | k + 1, a1, K => bif PV.isAgg 5 a1 then G87.F k (PV.agg [pcell a1 0, pcell a1 1, pcell a1 2, pcell a1 3, pcell a1 4]) (fun r2 => bif r2 then bif isStr (pcell a1 1) then bif !eqS (strOf (pcell a1 1)) ([] : Bytes) then bif (isStr (pcell a1 1) && true) then lValid (strOf (pcell a1 1)) (fun r3 => bif r3 then bif (isSl 1 (pcell a1 2) && true) then G88.F k (slOf (pcell a1 2)) (fun r4 => bif r4 then bif isSl 2 (pcell a1 3) then bif isSl 5 (pcell a1 4) then K (eqI (IntKind.i64.wrap ((((slOf (pcell a1 3)).length : Nat) : Int) + (((slOf (pcell a1 4)).length : Nat) : Int))) 0) else none else none else K false) else none else K false) else none else K false else none else bif isSl 2 (pcell a1 3) then G63.L5 k (pcell a1 3) (((slOf (pcell a1 3)).length : Nat) : Int) 0 (pcell a1 0) (pcell a1 1) (pcell a1 2) (pcell a1 3) (pcell a1 4) [] (fun y5 y6 y7 y8 y9 y10 => bif (isStr y5 && true) then G37.F k (strOf y5) (fun r11 => bif !r11 then K false else bif isStr y6 then bif !eqS (strOf y6) ([] : Bytes) then K false else bif isSl 1 y7 then bif gtI (((slOf y7).length : Nat) : Int) 0 then K false else G88.F k y10 (fun r12 => bif !r12 then K false else G63.J13 k (G63.L14 k) y5 y6 y7 y8 y9 (fun y13 => K y13)) else none else none) else none) (fun y14 => K y14) else none) else none
def G63.L14 {R : Type} : Nat → PV → Int → Int → PV → PV → PV → PV → PV → Option R → (Bool → Option R) → Option R
  | 0, _, _, _, _, _, _, _, _, _, _ => none
  | k + 1, x1, x2, x3, x4, x5, x6, x7, x8, K2, Kr => bif ltI x3 x2 then bif isSl 5 x1 && inI x3 (((slOf x1).length : Nat) : Int) then G63.F k (PV.agg [pcell (pat (slOf x1) x3) 0, pcell (pat (slOf x1) x3) 1, pcell (pat (slOf x1) x3) 2, pcell (pat (slOf x1) x3) 3, pcell (pat (slOf x1) x3) 4]) (fun r9 => bif !r9 then Kr false else bif gtI x3 0 then bif isSl 5 x8 && inI (IntKind.i64.wrap (x3 - 1)) (((slOf x8).length : Nat) : Int) then G89.F k (PV.agg [pcell (pat (slOf x8) (IntKind.i64.wrap (x3 - 1))) 0, pcell (pat (slOf x8) (IntKind.i64.wrap (x3 - 1))) 1, pcell (pat (slOf x8) (IntKind.i64.wrap (x3 - 1))) 2, pcell (pat (slOf x8) (IntKind.i64.wrap (x3 - 1))) 3, pcell (pat (slOf x8) (IntKind.i64.wrap (x3 - 1))) 4]) (PV.agg [pcell (pat (slOf x1) x3) 0, pcell (pat (slOf x1) x3) 1, pcell (pat (slOf x1) x3) 2, pcell (pat (slOf x1) x3) 3, pcell (pat (slOf x1) x3) 4]) (fun r10 => bif r10 then Kr false else G63.L14 k x1 x2 (IntKind.i64.wrap (x3 + 1)) x4 x5 x6 x7 x8 K2 Kr) else none else G63.L14 k x1 x2 (IntKind.i64.wrap (x3 + 1)) x4 x5 x6 x7 x8 K2 Kr) else none else K2
def G63.L5 {R : Type} : Nat → PV → Int → Int → PV → PV → PV → PV → PV → List PV → (PV → PV → PV → PV → PV → List PV → Option R) → (Bool → Option R) → Option R
  | 0, _, _, _, _, _, _, _, _, _, _, _ => none
  | k + 1, x1, x2, x3, x4, x5, x6, x7, x8, x9, K0, Kr => bif ltI x3 x2 then bif isSl 2 x1 && inI x3 (((slOf x1).length : Nat) : Int) then bif (isStr (pcell (pat (slOf x1) x3) 1) && true) then G38.F k (strOf (pcell (pat (slOf x1) x3) 1)) (fun r10 => bif !r10 then Kr false else bif (pcell (pat (slOf x1) x3) 0).isOne then bif leN (x9.length + 1) LIM then G63.L5 k x1 x2 (IntKind.i64.wrap (x3 + 1)) x4 x5 x6 x7 x8 (x9 ++ [pcell (pat (slOf x1) x3) 0]) K0 Kr else none else none) else none else none else K0 x4 x5 x6 x7 x8 x9
end
def G63.ks : List AK := [.pv]
def G63.A (k : Nat) : List PV → Cps GV := fun vs R K => G63.F k (vs.getD 0 .any) (fun r1 => K (GV.pv (PV.bool r1)))
def G63.G (k : Nat) : PureG := argG G63.ks (G63.A k)
def G63.c : Code := Tryz.f63.body.getD .skip
def G63.rho (k : Nat) : RhoF := (rp 87 (G87.G k) (rp 67 G67.G (rp 88 (G88.G k) (rp 38 (G38.G k) (rp 37 (G37.G k) (rp 63 (G63.G k) (rp 89 (G89.G k) rnil)))))))
def G63.sL5 : Shape := ⟨[(1, .fix (CV.ptr 1 0)), (3, .fix (CV.orow 3)), (34, .pv), (35, .int .i64), (36, .int .i64)], [(1, (.box [.pv, .pv, .pv, .pv, .pv])), (3, (.row 9))], []⟩
def G63.xL5_0 : Shape := ⟨[(1, .fix (CV.ptr 1 0)), (3, .fix (CV.orow 3))], [(1, (.box [.pv, .pv, .pv, .pv, .pv])), (3, (.row 9))], []⟩
def G63.xL5_r : Shape := ⟨[(2, .bool)], [], []⟩
def G63.mL5 : Exit → St → St := maskOf tyE [(0, G63.xL5_0)] G63.xL5_r noSh
def G63.eL5 : LoopE := ⟨5, G63.sL5, G63.mL5, fun k vs R K => G63.L5 k (vs.getD 2 .any) (intOf (vs.getD 3 .any)) (intOf (vs.getD 4 .any)) (vs.getD 5 .any) (vs.getD 6 .any) (vs.getD 7 .any) (vs.getD 8 .any) (vs.getD 9 .any) (slOf (vs.getD 10 .any)) (fun y2 y3 y4 y5 y6 y7 => K (.exit 0) (G63.xL5_0.build [.any, .any, y2, y3, y4, y5, y6, PV.sl 0 y7])) (fun y0 => K (.ret) (G63.xL5_r.build [PV.bool y0]))⟩
def G63.sJ13 : Shape := ⟨[(1, .fix (CV.ptr 1 0))], [(1, (.box [.pv, .pv, .pv, .pv, .pv]))], []⟩
def G63.xJ13_r : Shape := ⟨[(2, .bool)], [], []⟩
def G63.mJ13 : Exit → St → St := maskOf tyE [] G63.xJ13_r noSh
def G63.eJ13 : CutE := ⟨13, G63.sJ13, G63.mJ13, fun k vs R K => G63.J13 k (G63.L14 k) (vs.getD 1 .any) (vs.getD 2 .any) (vs.getD 3 .any) (vs.getD 4 .any) (vs.getD 5 .any) (fun y0 => K (.ret) (G63.xJ13_r.build [PV.bool y0]))⟩
def G63.sL14 : Shape := ⟨[(1, .fix (CV.ptr 1 0)), (71, .pv), (72, .int .i64), (73, .int .i64)], [(1, (.box [.pv, .pv, .pv, .pv, .pv]))], []⟩
def G63.xL14_2 : Shape := ⟨[], [], []⟩
def G63.xL14_r : Shape := ⟨[(2, .bool)], [], []⟩
def G63.mL14 : Exit → St → St := maskOf tyE [(2, G63.xL14_2)] G63.xL14_r noSh
def G63.eL14 : LoopE := ⟨14, G63.sL14, G63.mL14, fun k vs R K => G63.L14 k (vs.getD 1 .any) (intOf (vs.getD 2 .any)) (intOf (vs.getD 3 .any)) (vs.getD 4 .any) (vs.getD 5 .any) (vs.getD 6 .any) (vs.getD 7 .any) (vs.getD 8 .any) (K (.exit 2) (G63.xL14_2.build [])) (fun y0 => K (.ret) (G63.xL14_r.build [PV.bool y0]))⟩
def G63.ls : List LoopE := [G63.eL5, G63.eL14]
def G63.cs : List CutE := [G63.eJ13]
theorem G63.tL5 (k : Nat) (vs : List PV) (R : Type) (K : Exit → St → Option R) : G63.eL5.L (k + 1) vs R K = exec tyE Tryz.f63.ntmps (G63.rho k R) (lam tyE k G63.cs G63.ls R) (loopAt G63.c 5) (G63.sL5.build vs) (loopK tyE G63.eL5 k K) := by kernel_rfl
theorem G63.tL14 (k : Nat) (vs : List PV) (R : Type) (K : Exit → St → Option R) : G63.eL14.L (k + 1) vs R K = exec tyE Tryz.f63.ntmps (G63.rho k R) (lam tyE k G63.cs G63.ls R) (loopAt G63.c 14) (G63.sL14.build vs) (loopK tyE G63.eL14 k K) := by kernel_rfl
theorem G63.tJ13 (k : Nat) (vs : List PV) (R : Type) (K : Exit → St → Option R) : G63.eJ13.J k vs R K = exec tyE Tryz.f63.ntmps (G63.rho k R) (lam tyE k G63.cs G63.ls R) (secondAt G63.c 13) (G63.sJ13.build vs) (fun x st => K x (G63.mJ13 x st)) := by kernel_rfl
theorem G63.tower : Tower tyE Tryz.f63.ntmps G63.c G63.rho G63.ls G63.cs := tower_of (AllL.cons ⟨by kernel_rfl, fun _ _ _ => by kernel_rfl, maskOf_weak tyE [(0, G63.xL5_0)] G63.xL5_r noSh, G63.tL5⟩ (AllL.cons ⟨by kernel_rfl, fun _ _ _ => by kernel_rfl, maskOf_weak tyE [(2, G63.xL14_2)] G63.xL14_r noSh, G63.tL14⟩ AllL.nil)) (AllL.cons ⟨by kernel_rfl, maskOf_weak tyE [] G63.xJ13_r noSh, G63.tJ13⟩ AllL.nil)
theorem G63.body : Tryz.f63.body = some G63.c := by kernel_rfl
theorem G63.name : (Tryz.f63.name == "runtime.NumGoroutine") = false := by kernel_rfl
theorem G63.tF (k : Nat) (vs : List PV) (R : Type) (K : GV → Option R) : G63.A (k + 1) vs R K = execPure tyE (G63.rho k R) (lam tyE k G63.cs G63.ls R) Tryz.f63 (canonArgs G63.ks 0 vs) K := by kernel_rfl
theorem G63.zero {W0 : World} : PureOk Tryz.prog tyE W0 63 (G63.G 0) := pureOk_none (enters_of Tryz.func63 G63.name (by rw [G63.body]; rfl)) (argG_none fun _ _ _ => by kernel_rfl)
theorem G63.step {W0 : World} (k : Nat) (h : ∀ j, j ≤ k → RhoAll Tryz.prog tyE tyB W0 (G63.rho j)) : PureOk Tryz.prog tyE W0 63 (G63.G (k + 1)) := G63.tower.pure tyOk Tryz.func63 G63.body G63.name h (argG_ok (G63.tF k))
theorem G63.scc {W0 : World} (hW : WOk W0) : ∀ k, PureOk Tryz.prog tyE W0 63 (G63.G k) := by
  intro k
  induction k using Nat.strongRecOn with
  | _ k ih =>
    cases k with
    | zero => exact G63.zero
    | succ k => exact G63.step k (fun j hj => ((G87.ok hW j).all ((G67.ok hW).all ((G88.ok hW j).all ((G38.ok hW j).all ((G37.ok hW j).all ((ih j (Nat.lt_succ_of_le hj)).all ((G89.ok hW j).all rnil_all))))))))
theorem G63.ok {W0 : World} (hW : WOk W0) (k : Nat) : PureOk Tryz.prog tyE W0 63 (G63.G k) := (G63.scc hW k)
mutual
def G64.F {R : Type} : Nat → PV → (Int → Option R) → Option R
  | 0, _, _ => none
  | k + 1, a1, K => bif PV.isAgg 5 a1 then G87.F k (PV.agg [pcell a1 0, pcell a1 1, pcell a1 2, pcell a1 3, pcell a1 4]) (fun r2 => bif r2 then K 0 else bif isSl 5 (pcell a1 4) then G64.L5 k 0 (pcell a1 4) (((slOf (pcell a1 4)).length : Nat) : Int) 0 (fun y3 => K (IntKind.i64.wrap (y3 + 1))) else none) else none
def G64.L5 {R : Type} : Nat → Int → PV → Int → Int → (Int → Option R) → Option R
  | 0, _, _, _, _, _ => none
  | k + 1, x1, x2, x3, x4, K0 => bif ltI x4 x3 then bif isSl 5 x2 && inI x4 (((slOf x2).length : Nat) : Int) then G64.F k (PV.agg [pcell (pat (slOf x2) x4) 0, pcell (pat (slOf x2) x4) 1, pcell (pat (slOf x2) x4) 2, pcell (pat (slOf x2) x4) 3, pcell (pat (slOf x2) x4) 4]) (fun r5 => G64.L5 k (max x1 r5) x2 x3 (IntKind.i64.wrap (x4 + 1)) K0) else none else K0 x1
end
def G64.ks : List AK := [.pv]
def G64.A (k : Nat) : List PV → Cps GV := fun vs R K => G64.F k (vs.getD 0 .any) (fun r1 => K (GV.pv (PV.int .i64 r1)))
def G64.G (k : Nat) : PureG := argG G64.ks (G64.A k)
def G64.c : Code := Tryz.f64.body.getD .skip
def G64.rho (k : Nat) : RhoF := (rp 87 (G87.G k) (rp 64 (G64.G k) rnil))
def G64.sL5 : Shape := ⟨[(3, .int .i64), (9, .pv), (10, .int .i64), (11, .int .i64)], [], []⟩
def G64.xL5_0 : Shape := ⟨[(3, .int .i64)], [], []⟩
def G64.mL5 : Exit → St → St := maskOf tyE [(0, G64.xL5_0)] noSh noSh
def G64.eL5 : LoopE := ⟨5, G64.sL5, G64.mL5, fun k vs R K => G64.L5 k (intOf (vs.getD 0 .any)) (vs.getD 1 .any) (intOf (vs.getD 2 .any)) (intOf (vs.getD 3 .any)) (fun y0 => K (.exit 0) (G64.xL5_0.build [PV.int .i64 y0]))⟩
def G64.ls : List LoopE := [G64.eL5]
def G64.cs : List CutE := []
theorem G64.tL5 (k : Nat) (vs : List PV) (R : Type) (K : Exit → St → Option R) : G64.eL5.L (k + 1) vs R K = exec tyE Tryz.f64.ntmps (G64.rho k R) (lam tyE k G64.cs G64.ls R) (loopAt G64.c 5) (G64.sL5.build vs) (loopK tyE G64.eL5 k K) := by kernel_rfl
theorem G64.tower : Tower tyE Tryz.f64.ntmps G64.c G64.rho G64.ls G64.cs := tower_of (AllL.cons ⟨by kernel_rfl, fun _ _ _ => by kernel_rfl, maskOf_weak tyE [(0, G64.xL5_0)] noSh noSh, G64.tL5⟩ AllL.nil) AllL.nil
theorem G64.body : Tryz.f64.body = some G64.c := by kernel_rfl
theorem G64.name : (Tryz.f64.name == "runtime.NumGoroutine") = false := by kernel_rfl
theorem G64.tF (k : Nat) (vs : List PV) (R : Type) (K : GV → Option R) : G64.A (k + 1) vs R K = execPure tyE (G64.rho k R) (lam tyE k G64.cs G64.ls R) Tryz.f64 (canonArgs G64.ks 0 vs) K := by kernel_rfl
theorem G64.zero {W0 : World} : PureOk Tryz.prog tyE W0 64 (G64.G 0) := pureOk_none (enters_of Tryz.func64 G64.name (by rw [G64.body]; rfl)) (argG_none fun _ _ _ => by kernel_rfl)
theorem G64.step {W0 : World} (k : Nat) (h : ∀ j, j ≤ k → RhoAll Tryz.prog tyE tyB W0 (G64.rho j)) : PureOk Tryz.prog tyE W0 64 (G64.G (k + 1)) := G64.tower.pure tyOk Tryz.func64 G64.body G64.name h (argG_ok (G64.tF k))
theorem G64.scc {W0 : World} (hW : WOk W0) : ∀ k, PureOk Tryz.prog tyE W0 64 (G64.G k) := by
  intro k
  induction k using Nat.strongRecOn with
  | _ k ih =>
    cases k with
    | zero => exact G64.zero
    | succ k => exact G64.step k (fun j hj => ((G87.ok hW j).all ((ih j (Nat.lt_succ_of_le hj)).all rnil_all)))
theorem G64.ok {W0 : World} (hW : WOk W0) (k : Nat) : PureOk Tryz.prog tyE W0 64 (G64.G k) := (G64.scc hW k)
mutual
def G65.F {R : Type} : Nat → PV → (Int → Option R) → Option R
  | 0, _, _ => none
  | k + 1, a1, K => bif PV.isAgg 5 a1 then G87.F k (PV.agg [pcell a1 0, pcell a1 1, pcell a1 2, pcell a1 3, pcell a1 4]) (fun r2 => bif r2 then bif (isStr (pcell a1 1) && true) then lRuneCount (strOf (pcell a1 1)) (fun r3 => K r3) else none else bif (isSl 5 (pcell a1 4) && true) then G91.F k (slOf (pcell a1 4)) (fun r4 => K (IntKind.i64.wrap (2 + r4))) else none) else none
def G91.F {R : Type} : Nat → List PV → (Int → Option R) → Option R
  | 0, _, _ => none
  | k + 1, a1, K => G91.L3 k 0 a1 ((a1.length : Nat) : Int) 0 (fun y2 => K y2)
def G91.L3 {R : Type} : Nat → Int → List PV → Int → Int → (Int → Option R) → Option R
  | 0, _, _, _, _, _ => none
  | k + 1, x1, x2, x3, x4, K0 => bif ltI x4 x3 then bif inI x4 ((x2.length : Nat) : Int) then G65.F k (PV.agg [pcell (pat x2 x4) 0, pcell (pat x2 x4) 1, pcell (pat x2 x4) 2, pcell (pat x2 x4) 3, pcell (pat x2 x4) 4]) (fun r5 => G91.L3 k (IntKind.i64.wrap (x1 + r5)) x2 x3 (IntKind.i64.wrap (x4 + 1)) K0) else none else K0 x1
end
def G65.ks : List AK := [.pv]
def G65.A (k : Nat) : List PV → Cps GV := fun vs R K => G65.F k (vs.getD 0 .any) (fun r1 => K (GV.pv (PV.int .i64 r1)))
def G65.G (k : Nat) : PureG := argG G65.ks (G65.A k)
def G91.ks : List AK := [.sl 5]
def G91.A (k : Nat) : List PV → Cps GV := fun vs R K => G91.F k (slOf (vs.getD 0 .any)) (fun r1 => K (GV.pv (PV.int .i64 r1)))
def G91.G (k : Nat) : PureG := argG G91.ks (G91.A k)
def G65.c : Code := Tryz.f65.body.getD .skip
def G65.rho (k : Nat) : RhoF := (rp 87 (G87.G k) (rp 90 G90.G (rp 91 (G91.G k) rnil)))
def G65.ls : List LoopE := []
def G65.cs : List CutE := []
theorem G65.tower : Tower tyE Tryz.f65.ntmps G65.c G65.rho G65.ls G65.cs := tower_of AllL.nil AllL.nil
theorem G65.body : Tryz.f65.body = some G65.c := by kernel_rfl
theorem G65.name : (Tryz.f65.name == "runtime.NumGoroutine") = false := by kernel_rfl
theorem G65.tF (k : Nat) (vs : List PV) (R : Type) (K : GV → Option R) : G65.A (k + 1) vs R K = execPure tyE (G65.rho k R) (lam tyE k G65.cs G65.ls R) Tryz.f65 (canonArgs G65.ks 0 vs) K := by kernel_rfl
theorem G65.zero {W0 : World} : PureOk Tryz.prog tyE W0 65 (G65.G 0) := pureOk_none (enters_of Tryz.func65 G65.name (by rw [G65.body]; rfl)) (argG_none fun _ _ _ => by kernel_rfl)
theorem G65.step {W0 : World} (k : Nat) (h : ∀ j, j ≤ k → RhoAll Tryz.prog tyE tyB W0 (G65.rho j)) : PureOk Tryz.prog tyE W0 65 (G65.G (k + 1)) := G65.tower.pure tyOk Tryz.func65 G65.body G65.name h (argG_ok (G65.tF k))
def G91.c : Code := Tryz.f91.body.getD .skip
def G91.rho (k : Nat) : RhoF := (rp 65 (G65.G k) rnil)
def G91.sL3 : Shape := ⟨[(3, .int .i64), (6, .sl 5), (7, .int .i64), (8, .int .i64)], [], []⟩
def G91.xL3_0 : Shape := ⟨[(3, .int .i64)], [], []⟩
def G91.mL3 : Exit → St → St := maskOf tyE [(0, G91.xL3_0)] noSh noSh
def G91.eL3 : LoopE := ⟨3, G91.sL3, G91.mL3, fun k vs R K => G91.L3 k (intOf (vs.getD 0 .any)) (slOf (vs.getD 1 .any)) (intOf (vs.getD 2 .any)) (intOf (vs.getD 3 .any)) (fun y0 => K (.exit 0) (G91.xL3_0.build [PV.int .i64 y0]))⟩
def G91.ls : List LoopE := [G91.eL3]
def G91.cs : List CutE := []
theorem G91.tL3 (k : Nat) (vs : List PV) (R : Type) (K : Exit → St → Option R) : G91.eL3.L (k + 1) vs R K = exec tyE Tryz.f91.ntmps (G91.rho k R) (lam tyE k G91.cs G91.ls R) (loopAt G91.c 3) (G91.sL3.build vs) (loopK tyE G91.eL3 k K) := by kernel_rfl
theorem G91.tower : Tower tyE Tryz.f91.ntmps G91.c G91.rho G91.ls G91.cs := tower_of (AllL.cons ⟨by kernel_rfl, fun _ _ _ => by kernel_rfl, maskOf_weak tyE [(0, G91.xL3_0)] noSh noSh, G91.tL3⟩ AllL.nil) AllL.nil
theorem G91.body : Tryz.f91.body = some G91.c := by kernel_rfl
theorem G91.name : (Tryz.f91.name == "runtime.NumGoroutine") = false := by kernel_rfl
theorem G91.tF (k : Nat) (vs : List PV) (R : Type) (K : GV → Option R) : G91.A (k + 1) vs R K = execPure tyE (G91.rho k R) (lam tyE k G91.cs G91.ls R) Tryz.f91 (canonArgs G91.ks 0 vs) K := by kernel_rfl
theorem G91.zero {W0 : World} : PureOk Tryz.prog tyE W0 91 (G91.G 0) := pureOk_none (enters_of Tryz.func91 G91.name (by rw [G91.body]; rfl)) (argG_none fun _ _ _ => by kernel_rfl)
theorem G91.step {W0 : World} (k : Nat) (h : ∀ j, j ≤ k → RhoAll Tryz.prog tyE tyB W0 (G91.rho j)) : PureOk Tryz.prog tyE W0 91 (G91.G (k + 1)) := G91.tower.pure tyOk Tryz.func91 G91.body G91.name h (argG_ok (G91.tF k))
theorem G91.scc {W0 : World} (hW : WOk W0) : ∀ k, PureOk Tryz.prog tyE W0 65 (G65.G k) ∧ PureOk Tryz.prog tyE W0 91 (G91.G k) := by
  intro k
  induction k using Nat.strongRecOn with
  | _ k ih =>
    cases k with
    | zero => exact ⟨G65.zero, G91.zero⟩
    | succ k => exact ⟨G65.step k (fun j hj => ((G87.ok hW j).all ((G90.ok hW).all ((ih j (Nat.lt_succ_of_le hj)).2.all rnil_all)))), G91.step k (fun j hj => ((ih j (Nat.lt_succ_of_le hj)).1.all rnil_all))⟩
theorem G65.ok {W0 : World} (hW : WOk W0) (k : Nat) : PureOk Tryz.prog tyE W0 65 (G65.G k) := (G91.scc hW k).1
theorem G91.ok {W0 : World} (hW : WOk W0) (k : Nat) : PureOk Tryz.prog tyE W0 91 (G91.G k) := (G91.scc hW k).2
def G36.F {R : Type} : Nat → PV → (Int → Option R) → Option R
  | 0, _, _ => none
  | k + 1, a1, K => bif PV.isAgg 5 a1 then G63.F k (PV.agg [pcell a1 0, pcell a1 1, pcell a1 2, pcell a1 3, pcell a1 4]) (fun r2 => bif !r2 then K 2 else G64.F k (PV.agg [pcell a1 0, pcell a1 1, pcell a1 2, pcell a1 3, pcell a1 4]) (fun r3 => bif gtI r3 40 then K 4 else G65.F k (PV.agg [pcell a1 0, pcell a1 1, pcell a1 2, pcell a1 3, pcell a1 4]) (fun r4 => bif gtI r4 4000 then K 5 else K 0))) else none
def G36.ks : List AK := [.pv]
def G36.A (k : Nat) : List PV → Cps GV := fun vs R K => G36.F k (vs.getD 0 .any) (fun r1 => K (GV.pv (PV.int .i64 r1)))
def G36.G (k : Nat) : PureG := argG G36.ks (G36.A k)
def G36.c : Code := Tryz.f36.body.getD .skip
def G36.rho (k : Nat) : RhoF := (rp 63 (G63.G k) (rp 64 (G64.G k) (rp 65 (G65.G k) rnil)))
def G36.ls : List LoopE := []
def G36.cs : List CutE := []
theorem G36.tower : Tower tyE Tryz.f36.ntmps G36.c G36.rho G36.ls G36.cs := tower_of AllL.nil AllL.nil
theorem G36.body : Tryz.f36.body = some G36.c := by kernel_rfl
theorem G36.name : (Tryz.f36.name == "runtime.NumGoroutine") = false := by kernel_rfl
theorem G36.tF (k : Nat) (vs : List PV) (R : Type) (K : GV → Option R) : G36.A (k + 1) vs R K = execPure tyE (G36.rho k R) (lam tyE k G36.cs G36.ls R) Tryz.f36 (canonArgs G36.ks 0 vs) K := by kernel_rfl
theorem G36.zero {W0 : World} : PureOk Tryz.prog tyE W0 36 (G36.G 0) := pureOk_none (enters_of Tryz.func36 G36.name (by rw [G36.body]; rfl)) (argG_none fun _ _ _ => by kernel_rfl)
theorem G36.step {W0 : World} (k : Nat) (h : ∀ j, j ≤ k → RhoAll Tryz.prog tyE tyB W0 (G36.rho j)) : PureOk Tryz.prog tyE W0 36 (G36.G (k + 1)) := G36.tower.pure tyOk Tryz.func36 G36.body G36.name h (argG_ok (G36.tF k))
theorem G36.all {W0 : World} (hW : WOk W0) (j : Nat) : RhoAll Tryz.prog tyE tyB W0 (G36.rho j) := ((G63.ok hW j).all ((G64.ok hW j).all ((G65.ok hW j).all rnil_all)))
theorem G36.ok {W0 : World} (hW : WOk W0) : ∀ k, PureOk Tryz.prog tyE W0 36 (G36.G k)
  | 0 => G36.zero
  | k + 1 => G36.step k fun j _ => G36.all hW j
def G17.J10 {R : Type} (k : Nat) (x1 : Bool) (x2 : Bool) (x3 : PV) (x4 : PV) (x5 : PV) (x6 : PV) (x7 : PV) (x8 : PV) (Kr : (Bool → Option R)) (Kn : Option R) : Option R := bif x2 then bif x1 then bif (isStr x7 && true) then G37.F k (strOf x7) (fun r9 => bif r9 then bif isSl 5 x6 then bif eqI (((slOf x6).length : Nat) : Int) 0 then bif isStr x8 then Kr (eqS (strOf x8) ([] : Bytes)) else none else Kr false else none else Kr false) else none else Kr false else Kn
def G17.J2 {R : Type} (k : Nat) (x1 : Bool) (x2 : PV) (x3 : PV) (x4 : PV) (x5 : PV) (x6 : PV) (x7 : PV) (Kr : (Bool → Option R)) : Option R := bif isInt .u8 x2 then bif eqI (intOf x2) 114 then bif x5.isOne then G36.F k (PV.agg [PV.str ([120] : Bytes), PV.str [], PV.sl 1 [], PV.sl 2 [], x5]) (fun r8 => bif x1 then bif !eqI r8 2 then bif isStr x6 then bif isStr x7 then bif leN ((strOf x6).length + (strOf x7).length) LIM then Kr (eqS ((strOf x6) ++ (strOf x7)) ([] : Bytes)) else none else none else none else Kr false else Kr false) else none else bif isInt .u8 x2 then bif eqI (intOf x2) 97 then bif isInt .i64 x3 then bif geI (intOf x3) (-1) then bif isInt .i64 x3 then bif leI (intOf x3) 1048576 then bif isInt .i64 x4 then bif eqI (intOf x4) 0 then bif (isStr x6 && true) then G37.F k (strOf x6) (fun r9 => bif r9 then bif (isStr x7 && true) then G38.F k (strOf x7) (fun r10 => bif r10 then bif isSl 5 x5 then Kr (eqI (((slOf x5).length : Nat) : Int) 0) else none else Kr false) else none else Kr false) else none else Kr false else none else Kr false else none else Kr false else none else bif isInt .u8 x2 then bif eqI (intOf x2) 109 then G17.J10 k x1 true x2 x3 x4 x5 x6 x7 (fun y11 => Kr y11) ( Kr false) else bif isInt .u8 x2 then G17.J10 k x1 (eqI (intOf x2) 117) x2 x3 x4 x5 x6 x7 (fun y12 => Kr y12) ( Kr false) else none else none else none else none
def G17.F {R : Type} : Nat → PV → (Bool → Option R) → Option R
  | 0, _, _ => none
  | k + 1, a1, K => bif PV.isAgg 6 a1 then bif isInt .i64 (pcell a1 1) then bif geI (intOf (pcell a1 1)) 0 then bif isInt .i64 (pcell a1 1) then bif isInt .i64 (pcell a1 2) then bif leI (intOf (pcell a1 1)) (intOf (pcell a1 2)) then bif isInt .i64 (pcell a1 2) then G17.J2 k (leI (intOf (pcell a1 2)) 1048576) (pcell a1 0) (pcell a1 1) (pcell a1 2) (pcell a1 3) (pcell a1 4) (pcell a1 5) (fun y2 => K y2) else none else G17.J2 k false (pcell a1 0) (pcell a1 1) (pcell a1 2) (pcell a1 3) (pcell a1 4) (pcell a1 5) (fun y3 => K y3) else none else none else G17.J2 k false (pcell a1 0) (pcell a1 1) (pcell a1 2) (pcell a1 3) (pcell a1 4) (pcell a1 5) (fun y4 => K y4) else none else none
def G17.ks : List AK := [.pv]
def G17.A (k : Nat) : List PV → Cps GV := fun vs R K => G17.F k (vs.getD 0 .any) (fun r1 => K (GV.pv (PV.bool r1)))
def G17.G (k : Nat) : PureG := argG G17.ks (G17.A k)
def G17.c : Code := Tryz.f17.body.getD .skip
def G17.rho (k : Nat) : RhoF := (rp 36 (G36.G k) (rp 37 (G37.G k) (rp 38 (G38.G k) rnil)))
def G17.sJ2 : Shape := ⟨[(1, .fix (CV.ptr 1 0)), (3, .bool)], [(1, (.box [.pv, .pv, .pv, .pv, .pv, .pv]))], []⟩
def G17.xJ2_r : Shape := ⟨[(2, .bool)], [], []⟩
def G17.mJ2 : Exit → St → St := maskOf tyE [] G17.xJ2_r noSh
def G17.eJ2 : CutE := ⟨2, G17.sJ2, G17.mJ2, fun k vs R K => G17.J2 k (boolOf (vs.getD 1 .any)) (vs.getD 2 .any) (vs.getD 3 .any) (vs.getD 4 .any) (vs.getD 5 .any) (vs.getD 6 .any) (vs.getD 7 .any) (fun y0 => K (.ret) (G17.xJ2_r.build [PV.bool y0]))⟩
def G17.sJ10 : Shape := ⟨[(1, .fix (CV.ptr 1 0)), (3, .bool), (72, .bool)], [(1, (.box [.pv, .pv, .pv, .pv, .pv, .pv]))], []⟩
def G17.xJ10_r : Shape := ⟨[(2, .bool)], [], []⟩
def G17.xJ10_n : Shape := ⟨[], [], []⟩
def G17.mJ10 : Exit → St → St := maskOf tyE [] G17.xJ10_r G17.xJ10_n
def G17.eJ10 : CutE := ⟨10, G17.sJ10, G17.mJ10, fun k vs R K => G17.J10 k (boolOf (vs.getD 1 .any)) (boolOf (vs.getD 2 .any)) (vs.getD 3 .any) (vs.getD 4 .any) (vs.getD 5 .any) (vs.getD 6 .any) (vs.getD 7 .any) (vs.getD 8 .any) (fun y0 => K (.ret) (G17.xJ10_r.build [PV.bool y0])) (K (.normal) (G17.xJ10_n.build []))⟩
def G17.ls : List LoopE := []
def G17.cs : List CutE := [G17.eJ2, G17.eJ10]
theorem G17.tJ2 (k : Nat) (vs : List PV) (R : Type) (K : Exit → St → Option R) : G17.eJ2.J k vs R K = exec tyE Tryz.f17.ntmps (G17.rho k R) (lam tyE k G17.cs G17.ls R) (secondAt G17.c 2) (G17.sJ2.build vs) (fun x st => K x (G17.mJ2 x st)) := by kernel_rfl
theorem G17.tJ10 (k : Nat) (vs : List PV) (R : Type) (K : Exit → St → Option R) : G17.eJ10.J k vs R K = exec tyE Tryz.f17.ntmps (G17.rho k R) (lam tyE k G17.cs G17.ls R) (secondAt G17.c 10) (G17.sJ10.build vs) (fun x st => K x (G17.mJ10 x st)) := by kernel_rfl
theorem G17.tower : Tower tyE Tryz.f17.ntmps G17.c G17.rho G17.ls G17.cs := tower_of AllL.nil (AllL.cons ⟨by kernel_rfl, maskOf_weak tyE [] G17.xJ2_r noSh, G17.tJ2⟩ (AllL.cons ⟨by kernel_rfl, maskOf_weak tyE [] G17.xJ10_r G17.xJ10_n, G17.tJ10⟩ AllL.nil))
theorem G17.body : Tryz.f17.body = some G17.c := by kernel_rfl
theorem G17.name : (Tryz.f17.name == "runtime.NumGoroutine") = false := by kernel_rfl
theorem G17.tF (k : Nat) (vs : List PV) (R : Type) (K : GV → Option R) : G17.A (k + 1) vs R K = execPure tyE (G17.rho k R) (lam tyE k G17.cs G17.ls R) Tryz.f17 (canonArgs G17.ks 0 vs) K := by kernel_rfl
theorem G17.zero {W0 : World} : PureOk Tryz.prog tyE W0 17 (G17.G 0) := pureOk_none (enters_of Tryz.func17 G17.name (by rw [G17.body]; rfl)) (argG_none fun _ _ _ => by kernel_rfl)
theorem G17.step {W0 : World} (k : Nat) (h : ∀ j, j ≤ k → RhoAll Tryz.prog tyE tyB W0 (G17.rho j)) : PureOk Tryz.prog tyE W0 17 (G17.G (k + 1)) := G17.tower.pure tyOk Tryz.func17 G17.body G17.name h (argG_ok (G17.tF k))
theorem G17.all {W0 : World} (hW : WOk W0) (j : Nat) : RhoAll Tryz.prog tyE tyB W0 (G17.rho j) := ((G36.ok hW j).all ((G37.ok hW j).all ((G38.ok hW j).all rnil_all)))
theorem G17.ok {W0 : World} (hW : WOk W0) : ∀ k, PureOk Tryz.prog tyE W0 17 (G17.G k)
  | 0 => G17.zero
  | k + 1 => G17.step k fun j _ => G17.all hW j
def G42.F {R : Type} : Nat → List UInt8 → (List UInt8 → Option R) → Option R
  | 0, _, _ => none
  | k + 1, a1, K => lReplaceAll a1 ([92] : Bytes) ([92, 92] : Bytes) (fun r2 => lReplaceAll r2 ([34] : Bytes) ([92, 34] : Bytes) (fun r3 => bif leN (([34] : Bytes).length + r3.length) LIM then bif leN ((([34] : Bytes) ++ r3).length + ([34] : Bytes).length) LIM then K ((([34] : Bytes) ++ r3) ++ ([34] : Bytes)) else none else none))
def G42.ks : List AK := [.str]
def G42.A (k : Nat) : List PV → Cps GV := fun vs R K => G42.F k (strOf (vs.getD 0 .any)) (fun r1 => K (GV.pv (PV.str r1)))
def G42.G (k : Nat) : PureG := argG G42.ks (G42.A k)
def G42.c : Code := Tryz.f42.body.getD .skip
def G42.rho (k : Nat) : RhoF := (rp 70 G70.G rnil)
def G42.ls : List LoopE := []
def G42.cs : List CutE := []
theorem G42.tower : Tower tyE Tryz.f42.ntmps G42.c G42.rho G42.ls G42.cs := tower_of AllL.nil AllL.nil
theorem G42.body : Tryz.f42.body = some G42.c := by kernel_rfl
theorem G42.name : (Tryz.f42.name == "runtime.NumGoroutine") = false := by kernel_rfl
theorem G42.tF (k : Nat) (vs : List PV) (R : Type) (K : GV → Option R) : G42.A (k + 1) vs R K = execPure tyE (G42.rho k R) (lam tyE k G42.cs G42.ls R) Tryz.f42 (canonArgs G42.ks 0 vs) K := by kernel_rfl
theorem G42.zero {W0 : World} : PureOk Tryz.prog tyE W0 42 (G42.G 0) := pureOk_none (enters_of Tryz.func42 G42.name (by rw [G42.body]; rfl)) (argG_none fun _ _ _ => by kernel_rfl)
theorem G42.step {W0 : World} (k : Nat) (h : ∀ j, j ≤ k → RhoAll Tryz.prog tyE tyB W0 (G42.rho j)) : PureOk Tryz.prog tyE W0 42 (G42.G (k + 1)) := G42.tower.pure tyOk Tryz.func42 G42.body G42.name h (argG_ok (G42.tF k))
theorem G42.all {W0 : World} (hW : WOk W0) (j : Nat) : RhoAll Tryz.prog tyE tyB W0 (G42.rho j) := ((G70.ok hW).all rnil_all)
theorem G42.ok {W0 : World} (hW : WOk W0) : ∀ k, PureOk Tryz.prog tyE W0 42 (G42.G k)
  | 0 => G42.zero
  | k + 1 => G42.step k fun j _ => G42.all hW j
def G101.L9 {R : Type} : Nat → PV → Int → Int → PV → PV → PV → PV → PV → List PV → (PV → PV → PV → PV → PV → List PV → Option R) → Option R
  | 0, _, _, _, _, _, _, _, _, _, _ => none
  | k + 1, x1, x2, x3, x4, x5, x6, x7, x8, x9, K0 => bif ltI x3 x2 then bif isSl 2 x1 && inI x3 (((slOf x1).length : Nat) : Int) then bif isStr (pcell (pat (slOf x1) x3) 0) then bif leN ((strOf (pcell (pat (slOf x1) x3) 0)).length + ([61] : Bytes).length) LIM then bif (isStr (pcell (pat (slOf x1) x3) 1) && true) then G42.F k (strOf (pcell (pat (slOf x1) x3) 1)) (fun r10 => bif leN (((strOf (pcell (pat (slOf x1) x3) 0)) ++ ([61] : Bytes)).length + r10.length) LIM then bif leN (x9.length + 1) LIM then G101.L9 k x1 x2 (IntKind.i64.wrap (x3 + 1)) x4 x5 x6 x7 x8 (x9 ++ [PV.str (((strOf (pcell (pat (slOf x1) x3) 0)) ++ ([61] : Bytes)) ++ r10)]) K0 else none else none) else none else none else none else none else K0 x4 x5 x6 x7 x8 x9
def G101.F {R : Type} : Nat → PV → (PV → Option R) → Option R
  | 0, _, _ => none
  | k + 1, a1, K => bif PV.isAgg 5 a1 then bif isStr (pcell a1 0) then bif eqS (strOf (pcell a1 0)) ([116, 101, 120, 116] : Bytes) then bif isSl 1 (pcell a1 2) then bif eqI (((slOf (pcell a1 2)).length : Nat) : Int) 0 then K (PV.str ([] : Bytes)) else bif (isSl 1 (pcell a1 2) && true) then lJoin (slOf (pcell a1 2)) ([44] : Bytes) (fun r2 => bif leN (([60] : Bytes).length + r2.length) LIM then bif leN ((([60] : Bytes) ++ r2).length + ([62] : Bytes).length) LIM then K (PV.str ((([60] : Bytes) ++ r2) ++ ([62] : Bytes))) else none else none) else none else none else bif isSl 2 (pcell a1 3) then bif eqI (((slOf (pcell a1 3)).length : Nat) : Int) 0 then K (pcell a1 0) else bif isSl 2 (pcell a1 3) then G101.L9 k (pcell a1 3) (((slOf (pcell a1 3)).length : Nat) : Int) 0 (pcell a1 0) (pcell a1 1) (pcell a1 2) (pcell a1 3) (pcell a1 4) [] (fun y3 y4 y5 y6 y7 y8 => bif isStr y3 then bif leN ((strOf y3).length + ([40] : Bytes).length) LIM then lJoin y8 ([32] : Bytes) (fun r9 => bif leN (((strOf y3) ++ ([40] : Bytes)).length + r9.length) LIM then bif leN ((((strOf y3) ++ ([40] : Bytes)) ++ r9).length + ([41] : Bytes).length) LIM then K (PV.str ((((strOf y3) ++ ([40] : Bytes)) ++ r9) ++ ([41] : Bytes))) else none else none) else none else none) else none else none else none else none
def G101.ks : List AK := [.pv]
def G101.A (k : Nat) : List PV → Cps GV := fun vs R K => G101.F k (vs.getD 0 .any) (fun r1 => K (GV.pv (r1)))
def G101.G (k : Nat) : PureG := argG G101.ks (G101.A k)
def G101.c : Code := Tryz.f101.body.getD .skip
def G101.rho (k : Nat) : RhoF := (rp 43 G43.G (rp 42 (G42.G k) rnil))
def G101.sL9 : Shape := ⟨[(1, .fix (CV.ptr 1 0)), (3, .fix (CV.orow 3)), (25, .pv), (26, .int .i64), (27, .int .i64)], [(1, (.box [.pv, .pv, .pv, .pv, .pv])), (3, (.row 9))], []⟩
def G101.xL9_0 : Shape := ⟨[(1, .fix (CV.ptr 1 0)), (3, .fix (CV.orow 3))], [(1, (.box [.pv, .pv, .pv, .pv, .pv])), (3, (.row 9))], []⟩
def G101.mL9 : Exit → St → St := maskOf tyE [(0, G101.xL9_0)] noSh noSh
def G101.eL9 : LoopE := ⟨9, G101.sL9, G101.mL9, fun k vs R K => G101.L9 k (vs.getD 2 .any) (intOf (vs.getD 3 .any)) (intOf (vs.getD 4 .any)) (vs.getD 5 .any) (vs.getD 6 .any) (vs.getD 7 .any) (vs.getD 8 .any) (vs.getD 9 .any) (slOf (vs.getD 10 .any)) (fun y2 y3 y4 y5 y6 y7 => K (.exit 0) (G101.xL9_0.build [.any, .any, y2, y3, y4, y5, y6, PV.sl 0 y7]))⟩
def G101.ls : List LoopE := [G101.eL9]
def G101.cs : List CutE := []
theorem G101.tL9 (k : Nat) (vs : List PV) (R : Type) (K : Exit → St → Option R) : G101.eL9.L (k + 1) vs R K = exec tyE Tryz.f101.ntmps (G101.rho k R) (lam tyE k G101.cs G101.ls R) (loopAt G101.c 9) (G101.sL9.build vs) (loopK tyE G101.eL9 k K) := by kernel_rfl
theorem G101.tower : Tower tyE Tryz.f101.ntmps G101.c G101.rho G101.ls G101.cs := tower_of (AllL.cons ⟨by kernel_rfl, fun _ _ _ => by kernel_rfl, maskOf_weak tyE [(0, G101.xL9_0)] noSh noSh, G101.tL9⟩ AllL.nil) AllL.nil
theorem G101.body : Tryz.f101.body = some G101.c := by kernel_rfl
theorem G101.name : (Tryz.f101.name == "runtime.NumGoroutine") = false := by kernel_rfl
theorem G101.tF (k : Nat) (vs : List PV) (R : Type) (K : GV → Option R) : G101.A (k + 1) vs R K = execPure tyE (G101.rho k R) (lam tyE k G101.cs G101.ls R) Tryz.f101 (canonArgs G101.ks 0 vs) K := by kernel_rfl
theorem G101.zero {W0 : World} : PureOk Tryz.prog tyE W0 101 (G101.G 0) := pureOk_none (enters_of Tryz.func101 G101.name (by rw [G101.body]; rfl)) (argG_none fun _ _ _ => by kernel_rfl)
theorem G101.step {W0 : World} (k : Nat) (h : ∀ j, j ≤ k → RhoAll Tryz.prog tyE tyB W0 (G101.rho j)) : PureOk Tryz.prog tyE W0 101 (G101.G (k + 1)) := G101.tower.pure tyOk Tryz.func101 G101.body G101.name h (argG_ok (G101.tF k))
theorem G101.all {W0 : World} (hW : WOk W0) (j : Nat) : RhoAll Tryz.prog tyE tyB W0 (G101.rho j) := ((G43.ok hW).all ((G42.ok hW j).all rnil_all))
theorem G101.ok {W0 : World} (hW : WOk W0) : ∀ k, PureOk Tryz.prog tyE W0 101 (G101.G k)
  | 0 => G101.zero
  | k + 1 => G101.step k fun j _ => G101.all hW j
mutual
def G69.F {R : Type} : Nat → PV → List UInt8 → (List UInt8 → Option R) → Option R
  | 0, _, _, _ => none
  | k + 1, a1, h2, K => bif PV.isAgg 5 a1 then bif isStr (pcell a1 0) then bif eqS (strOf (pcell a1 0)) ([116, 101, 120, 116] : Bytes) then bif (isStr (pcell a1 1) && true) then G42.F k (strOf (pcell a1 1)) (fun r3 => G101.F k (PV.agg [pcell a1 0, pcell a1 1, pcell a1 2, pcell a1 3, pcell a1 4]) (fun r4 => bif isStr r4 then bif leN (r3.length + (strOf r4).length) LIM then lWriteString (r3 ++ (strOf r4)) h2 (fun r5 r6 o7 => K o7) else none else none)) else none else G101.F k (PV.agg [pcell a1 0, pcell a1 1, pcell a1 2, pcell a1 3, pcell a1 4]) (fun r8 => bif isStr r8 then bif leN ((strOf r8).length + ([91] : Bytes).length) LIM then lWriteString ((strOf r8) ++ ([91] : Bytes)) h2 (fun r9 r10 o11 => bif isSl 5 (pcell a1 4) then G69.L5 k (pcell a1 4) (((slOf (pcell a1 4)).length : Nat) : Int) 0 o11 (fun y12 => lWriteString ([93] : Bytes) y12 (fun r13 r14 o15 => K o15)) else none) else none else none) else none else none
def G69.L5 {R : Type} : Nat → PV → Int → Int → List UInt8 → (List UInt8 → Option R) → Option R
  | 0, _, _, _, _, _ => none
  | k + 1, x1, x2, x3, x4, K0 => bif ltI x3 x2 then bif isSl 5 x1 && inI x3 (((slOf x1).length : Nat) : Int) then G69.F k (PV.agg [pcell (pat (slOf x1) x3) 0, pcell (pat (slOf x1) x3) 1, pcell (pat (slOf x1) x3) 2, pcell (pat (slOf x1) x3) 3, pcell (pat (slOf x1) x3) 4]) x4 (fun o5 => G69.L5 k x1 x2 (IntKind.i64.wrap (x3 + 1)) o5 K0) else none else K0 x4
end
def G69.sh : Shape := ⟨[(0, .fix (CV.ptr 1000 0)), (1, .pv)], [(1000, .bld)], []⟩
def G69.A (k : Nat) : List PV → (R : Type) → (GV → List (Nat × Ob) → Option R) → Option R := fun vs R K => G69.F k (vs.getD 1 .any) (strOf (vs.getD 2 .any)) (fun o1 => K (GV.tup []) [(1000, Ob.bld o1)])
def G69.G (k : Nat) : HeapG := argH 2 G69.sh (G69.A k)
def G69.c : Code := Tryz.f69.body.getD .skip
def G69.rho (k : Nat) : RhoF := (rp 42 (G42.G k) (rp 101 (G101.G k) (rh 39 G39.G (rh 69 (G69.G k) rnil))))
def G69.sL5 : Shape := ⟨[(0, .fix (CV.ptr 1000 0)), (23, .pv), (24, .int .i64), (25, .int .i64)], [(1000, .bld)], []⟩
def G69.xL5_0 : Shape := ⟨[(0, .fix (CV.ptr 1000 0))], [(1000, .bld)], []⟩
def G69.mL5 : Exit → St → St := maskOf tyE [(0, G69.xL5_0)] noSh noSh
def G69.eL5 : LoopE := ⟨5, G69.sL5, G69.mL5, fun k vs R K => G69.L5 k (vs.getD 1 .any) (intOf (vs.getD 2 .any)) (intOf (vs.getD 3 .any)) (strOf (vs.getD 4 .any)) (fun y1 => K (.exit 0) (G69.xL5_0.build [.any, PV.str y1]))⟩
def G69.ls : List LoopE := [G69.eL5]
def G69.cs : List CutE := []
theorem G69.tL5 (k : Nat) (vs : List PV) (R : Type) (K : Exit → St → Option R) : G69.eL5.L (k + 1) vs R K = exec tyE Tryz.f69.ntmps (G69.rho k R) (lam tyE k G69.cs G69.ls R) (loopAt G69.c 5) (G69.sL5.build vs) (loopK tyE G69.eL5 k K) := by kernel_rfl
theorem G69.tower : Tower tyE Tryz.f69.ntmps G69.c G69.rho G69.ls G69.cs := tower_of (AllL.cons ⟨by kernel_rfl, fun _ _ _ => by kernel_rfl, maskOf_weak tyE [(0, G69.xL5_0)] noSh noSh, G69.tL5⟩ AllL.nil) AllL.nil
theorem G69.body : Tryz.f69.body = some G69.c := by kernel_rfl
theorem G69.name : (Tryz.f69.name == "runtime.NumGoroutine") = false := by kernel_rfl
theorem G69.tF (k : Nat) (vs : List PV) (R : Type) (K : GV → List (Nat × Ob) → Option R) : G69.A (k + 1) vs R K = execHeap tyE (G69.rho k R) (lam tyE k G69.cs G69.ls R) Tryz.f69 (G69.sh.asOf 2 vs) (G69.sh.hOf vs) K := by kernel_rfl
theorem G69.zero {W0 : World} : HeapGOk Tryz.prog tyE tyB W0 69 (G69.G 0) := heapOk_none (enters_of Tryz.func69 G69.name (by rw [G69.body]; rfl)) (argH_none fun _ _ _ => by kernel_rfl)
theorem G69.step {W0 : World} (k : Nat) (h : ∀ j, j ≤ k → RhoAll Tryz.prog tyE tyB W0 (G69.rho j)) : HeapGOk Tryz.prog tyE tyB W0 69 (G69.G (k + 1)) := G69.tower.heapH tyOk Tryz.func69 G69.body G69.name h (G69.tF k)
theorem G69.scc {W0 : World} (hW : WOk W0) : ∀ k, HeapGOk Tryz.prog tyE tyB W0 69 (G69.G k) := by
  intro k
  induction k using Nat.strongRecOn with
  | _ k ih =>
    cases k with
    | zero => exact G69.zero
    | succ k => exact G69.step k (fun j hj => ((G42.ok hW j).all ((G101.ok hW j).all ((G39.ok hW).all ((ih j (Nat.lt_succ_of_le hj)).all rnil_all)))))
theorem G69.ok {W0 : World} (hW : WOk W0) (k : Nat) : HeapGOk Tryz.prog tyE tyB W0 69 (G69.G k) := (G69.scc hW k)
def G41.F {R : Type} : Nat → PV → (List UInt8 → Int → Option R) → Option R
  | 0, _, _ => none
  | k + 1, a1, K => bif PV.isAgg 5 a1 then G36.F k (PV.agg [pcell a1 0, pcell a1 1, pcell a1 2, pcell a1 3, pcell a1 4]) (fun r2 => bif !eqI r2 0 then K ([] : Bytes) r2 else G69.F k (PV.agg [pcell a1 0, pcell a1 1, pcell a1 2, pcell a1 3, pcell a1 4]) [] (fun o3 => lString o3 (fun r4 o5 => K r4 0))) else none
def G41.ks : List AK := [.pv]
def G41.A (k : Nat) : List PV → Cps GV := fun vs R K => G41.F k (vs.getD 0 .any) (fun r1 r2 => K (GV.tup [CV.p (PV.str r1), CV.p (PV.int .i64 r2)]))
def G41.G (k : Nat) : PureG := argG G41.ks (G41.A k)
def G41.c : Code := Tryz.f41.body.getD .skip
def G41.rho (k : Nat) : RhoF := (rp 36 (G36.G k) (rh 69 (G69.G k) (rh 40 G40.G rnil)))
def G41.ls : List LoopE := []
def G41.cs : List CutE := []
theorem G41.tower : Tower tyE Tryz.f41.ntmps G41.c G41.rho G41.ls G41.cs := tower_of AllL.nil AllL.nil
theorem G41.body : Tryz.f41.body = some G41.c := by kernel_rfl
theorem G41.name : (Tryz.f41.name == "runtime.NumGoroutine") = false := by kernel_rfl
theorem G41.tF (k : Nat) (vs : List PV) (R : Type) (K : GV → Option R) : G41.A (k + 1) vs R K = execPure tyE (G41.rho k R) (lam tyE k G41.cs G41.ls R) Tryz.f41 (canonArgs G41.ks 0 vs) K := by kernel_rfl
theorem G41.zero {W0 : World} : PureOk Tryz.prog tyE W0 41 (G41.G 0) := pureOk_none (enters_of Tryz.func41 G41.name (by rw [G41.body]; rfl)) (argG_none fun _ _ _ => by kernel_rfl)
theorem G41.step {W0 : World} (k : Nat) (h : ∀ j, j ≤ k → RhoAll Tryz.prog tyE tyB W0 (G41.rho j)) : PureOk Tryz.prog tyE W0 41 (G41.G (k + 1)) := G41.tower.pure tyOk Tryz.func41 G41.body G41.name h (argG_ok (G41.tF k))
theorem G41.all {W0 : World} (hW : WOk W0) (j : Nat) : RhoAll Tryz.prog tyE tyB W0 (G41.rho j) := ((G36.ok hW j).all ((G69.ok hW j).all ((G40.ok hW).all rnil_all)))
theorem G41.ok {W0 : World} (hW : WOk W0) : ∀ k, PureOk Tryz.prog tyE W0 41 (G41.G k)
  | 0 => G41.zero
  | k + 1 => G41.step k fun j _ => G41.all hW j
def G21.F {R : Type} : Nat → List PV → (List UInt8 → Int → Option R) → Option R
  | 0, _, _ => none
  | k + 1, a1, K => G41.F k (PV.agg [PV.str ([120] : Bytes), PV.str [], PV.sl 1 [], PV.sl 2 [], PV.sl 5 a1]) (fun r2 r3 => bif !eqI r3 0 then K ([] : Bytes) r3 else bif inR 2 (IntKind.i64.wrap (((r2.length : Nat) : Int) - 1)) ((r2.length : Nat) : Int) then K (sub r2 2 (IntKind.i64.wrap (((r2.length : Nat) : Int) - 1))) 0 else none)
def G21.ks : List AK := [.sl 5]
def G21.A (k : Nat) : List PV → Cps GV := fun vs R K => G21.F k (slOf (vs.getD 0 .any)) (fun r1 r2 => K (GV.tup [CV.p (PV.str r1), CV.p (PV.int .i64 r2)]))
def G21.G (k : Nat) : PureG := argG G21.ks (G21.A k)
def G21.c : Code := Tryz.f21.body.getD .skip
def G21.rho (k : Nat) : RhoF := (rp 41 (G41.G k) rnil)
def G21.ls : List LoopE := []
def G21.cs : List CutE := []
theorem G21.tower : Tower tyE Tryz.f21.ntmps G21.c G21.rho G21.ls G21.cs := tower_of AllL.nil AllL.nil
theorem G21.body : Tryz.f21.body = some G21.c := by kernel_rfl
theorem G21.name : (Tryz.f21.name == "runtime.NumGoroutine") = false := by kernel_rfl
theorem G21.tF (k : Nat) (vs : List PV) (R : Type) (K : GV → Option R) : G21.A (k + 1) vs R K = execPure tyE (G21.rho k R) (lam tyE k G21.cs G21.ls R) Tryz.f21 (canonArgs G21.ks 0 vs) K := by kernel_rfl
theorem G21.zero {W0 : World} : PureOk Tryz.prog tyE W0 21 (G21.G 0) := pureOk_none (enters_of Tryz.func21 G21.name (by rw [G21.body]; rfl)) (argG_none fun _ _ _ => by kernel_rfl)
theorem G21.step {W0 : World} (k : Nat) (h : ∀ j, j ≤ k → RhoAll Tryz.prog tyE tyB W0 (G21.rho j)) : PureOk Tryz.prog tyE W0 21 (G21.G (k + 1)) := G21.tower.pure tyOk Tryz.func21 G21.body G21.name h (argG_ok (G21.tF k))
theorem G21.all {W0 : World} (hW : WOk W0) (j : Nat) : RhoAll Tryz.prog tyE tyB W0 (G21.rho j) := ((G41.ok hW j).all rnil_all)
theorem G21.ok {W0 : World} (hW : WOk W0) : ∀ k, PureOk Tryz.prog tyE W0 21 (G21.G k)
  | 0 => G21.zero
  | k + 1 => G21.step k fun j _ => G21.all hW j
def G22.F {R : Type} : Nat → PV → List UInt8 → (List UInt8 → Option R) → Option R
  | 0, _, _, _ => none
  | k + 1, a1, a2, K => bif PV.isAgg 6 a1 then bif (isInt .i64 (pcell a1 1) && true) then lItoa (intOf (pcell a1 1)) (fun r3 => bif (isInt .i64 (pcell a1 2) && true) then lItoa (intOf (pcell a1 2)) (fun r4 => bif (pcell a1 4).isOne then bif isInt .u8 (pcell a1 0) then bif eqI (intOf (pcell a1 0)) 114 then bif !eqS a2 ([] : Bytes) then lJoin [PV.str ([114, 101, 112, 108, 97, 99, 101] : Bytes), PV.str r3, PV.str r4, PV.str a2] ([32] : Bytes) (fun r5 => K r5) else lJoin [PV.str ([114, 101, 112, 108, 97, 99, 101] : Bytes), PV.str r3, PV.str r4] ([32] : Bytes) (fun r6 => K r6) else bif isInt .u8 (pcell a1 0) then bif eqI (intOf (pcell a1 0)) 97 then bif (isStr (pcell a1 5) && true) then G42.F k (strOf (pcell a1 5)) (fun r7 => bif (pcell a1 4).isOne then lJoin [PV.str ([97, 116, 116, 114] : Bytes), PV.str r3, pcell a1 4, PV.str r7] ([32] : Bytes) (fun r8 => K r8) else none) else none else bif isInt .u8 (pcell a1 0) then bif eqI (intOf (pcell a1 0)) 109 then bif inI 0 ((4 : Nat) : Int) then lJoin [PV.str ([109, 97, 114, 107] : Bytes), PV.str r3, PV.str r4, pcell a1 4] ([32] : Bytes) (fun r9 => K r9) else none else lJoin [PV.str ([117, 110, 109, 97, 114, 107] : Bytes), PV.str r3, PV.str r4, pcell a1 4] ([32] : Bytes) (fun r10 => K r10) else none else none else none else none) else none) else none else none
def G22.ks : List AK := [.pv, .str]
def G22.A (k : Nat) : List PV → Cps GV := fun vs R K => G22.F k (vs.getD 0 .any) (strOf (vs.getD 1 .any)) (fun r1 => K (GV.pv (PV.str r1)))
def G22.G (k : Nat) : PureG := argG G22.ks (G22.A k)
def G22.c : Code := Tryz.f22.body.getD .skip
def G22.rho (k : Nat) : RhoF := (rp 27 G27.G (rp 43 G43.G (rp 42 (G42.G k) rnil)))
def G22.ls : List LoopE := []
def G22.cs : List CutE := []
theorem G22.tower : Tower tyE Tryz.f22.ntmps G22.c G22.rho G22.ls G22.cs := tower_of AllL.nil AllL.nil
theorem G22.body : Tryz.f22.body = some G22.c := by kernel_rfl
theorem G22.name : (Tryz.f22.name == "runtime.NumGoroutine") = false := by kernel_rfl
theorem G22.tF (k : Nat) (vs : List PV) (R : Type) (K : GV → Option R) : G22.A (k + 1) vs R K = execPure tyE (G22.rho k R) (lam tyE k G22.cs G22.ls R) Tryz.f22 (canonArgs G22.ks 0 vs) K := by kernel_rfl
theorem G22.zero {W0 : World} : PureOk Tryz.prog tyE W0 22 (G22.G 0) := pureOk_none (enters_of Tryz.func22 G22.name (by rw [G22.body]; rfl)) (argG_none fun _ _ _ => by kernel_rfl)
theorem G22.step {W0 : World} (k : Nat) (h : ∀ j, j ≤ k → RhoAll Tryz.prog tyE tyB W0 (G22.rho j)) : PureOk Tryz.prog tyE W0 22 (G22.G (k + 1)) := G22.tower.pure tyOk Tryz.func22 G22.body G22.name h (argG_ok (G22.tF k))
theorem G22.all {W0 : World} (hW : WOk W0) (j : Nat) : RhoAll Tryz.prog tyE tyB W0 (G22.rho j) := ((G27.ok hW).all ((G43.ok hW).all ((G42.ok hW j).all rnil_all)))
theorem G22.ok {W0 : World} (hW : WOk W0) : ∀ k, PureOk Tryz.prog tyE W0 22 (G22.G k)
  | 0 => G22.zero
  | k + 1 => G22.step k fun j _ => G22.all hW j
def G9.F {R : Type} : Nat → PV → (List UInt8 → Int → Option R) → Option R
  | 0, _, _ => none
  | k + 1, a1, K => bif PV.isAgg 6 a1 then G17.F k (PV.agg [pcell a1 0, pcell a1 1, pcell a1 2, pcell a1 3, pcell a1 4, pcell a1 5]) (fun r2 => bif !r2 then K ([] : Bytes) 1 else bif (isSl 5 (pcell a1 3) && true) then G21.F k (slOf (pcell a1 3)) (fun r3 r4 => bif !eqI r4 0 then K ([] : Bytes) r4 else G22.F k (PV.agg [pcell a1 0, pcell a1 1, pcell a1 2, pcell a1 3, pcell a1 4, pcell a1 5]) r3 (fun r5 => K r5 0)) else none) else none
def G9.ks : List AK := [.pv]
def G9.A (k : Nat) : List PV → Cps GV := fun vs R K => G9.F k (vs.getD 0 .any) (fun r1 r2 => K (GV.tup [CV.p (PV.str r1), CV.p (PV.int .i64 r2)]))
def G9.G (k : Nat) : PureG := argG G9.ks (G9.A k)
def G9.c : Code := Tryz.f9.body.getD .skip
def G9.rho (k : Nat) : RhoF := (rp 17 (G17.G k) (rp 21 (G21.G k) (rp 22 (G22.G k) rnil)))
def G9.ls : List LoopE := []
def G9.cs : List CutE := []
theorem G9.tower : Tower tyE Tryz.f9.ntmps G9.c G9.rho G9.ls G9.cs := tower_of AllL.nil AllL.nil
theorem G9.body : Tryz.f9.body = some G9.c := by kernel_rfl
theorem G9.name : (Tryz.f9.name == "runtime.NumGoroutine") = false := by kernel_rfl
theorem G9.tF (k : Nat) (vs : List PV) (R : Type) (K : GV → Option R) : G9.A (k + 1) vs R K = execPure tyE (G9.rho k R) (lam tyE k G9.cs G9.ls R) Tryz.f9 (canonArgs G9.ks 0 vs) K := by kernel_rfl
theorem G9.zero {W0 : World} : PureOk Tryz.prog tyE W0 9 (G9.G 0) := pureOk_none (enters_of Tryz.func9 G9.name (by rw [G9.body]; rfl)) (argG_none fun _ _ _ => by kernel_rfl)
theorem G9.step {W0 : World} (k : Nat) (h : ∀ j, j ≤ k → RhoAll Tryz.prog tyE tyB W0 (G9.rho j)) : PureOk Tryz.prog tyE W0 9 (G9.G (k + 1)) := G9.tower.pure tyOk Tryz.func9 G9.body G9.name h (argG_ok (G9.tF k))
theorem G9.all {W0 : World} (hW : WOk W0) (j : Nat) : RhoAll Tryz.prog tyE tyB W0 (G9.rho j) := ((G17.ok hW j).all ((G21.ok hW j).all ((G22.ok hW j).all rnil_all)))
theorem G9.ok {W0 : World} (hW : WOk W0) : ∀ k, PureOk Tryz.prog tyE W0 9 (G9.G k)
  | 0 => G9.zero
  | k + 1 => G9.step k fun j _ => G9.all hW j
def G7.F {R : Type} : Nat → (Bool → Option R) → Option R
  | 0, _ => none
  | k + 1, K => G9.F k (PV.agg [PV.int .u8 114, PV.int .i64 1, PV.int .i64 3, PV.sl 5 [PV.agg [PV.str ([112] : Bytes), PV.str [], PV.sl 1 [], PV.sl 2 [], PV.sl 5 []]], PV.str [], PV.str []]) (fun r1 r2 => bif eqS r1 ([114, 101, 112, 108, 97, 99, 101, 32, 49, 32, 51, 32, 112, 91, 93] : Bytes) then K (eqI r2 0) else K false)
def G7.ks : List AK := []
def G7.A (k : Nat) : List PV → Cps GV := fun vs R K => G7.F k (fun r1 => K (GV.pv (PV.bool r1)))
def G7.G (k : Nat) : PureG := argG G7.ks (G7.A k)
def G7.c : Code := Tryz.f7.body.getD .skip
def G7.rho (k : Nat) : RhoF := (rp 9 (G9.G k) rnil)
def G7.ls : List LoopE := []
def G7.cs : List CutE := []
theorem G7.tower : Tower tyE Tryz.f7.ntmps G7.c G7.rho G7.ls G7.cs := tower_of AllL.nil AllL.nil
theorem G7.body : Tryz.f7.body = some G7.c := by kernel_rfl
theorem G7.name : (Tryz.f7.name == "runtime.NumGoroutine") = false := by kernel_rfl
theorem G7.tF (k : Nat) (vs : List PV) (R : Type) (K : GV → Option R) : G7.A (k + 1) vs R K = execPure tyE (G7.rho k R) (lam tyE k G7.cs G7.ls R) Tryz.f7 (canonArgs G7.ks 0 vs) K := by kernel_rfl
theorem G7.zero {W0 : World} : PureOk Tryz.prog tyE W0 7 (G7.G 0) := pureOk_none (enters_of Tryz.func7 G7.name (by rw [G7.body]; rfl)) (argG_none fun _ _ _ => by kernel_rfl)
theorem G7.step {W0 : World} (k : Nat) (h : ∀ j, j ≤ k → RhoAll Tryz.prog tyE tyB W0 (G7.rho j)) : PureOk Tryz.prog tyE W0 7 (G7.G (k + 1)) := G7.tower.pure tyOk Tryz.func7 G7.body G7.name h (argG_ok (G7.tF k))
theorem G7.all {W0 : World} (hW : WOk W0) (j : Nat) : RhoAll Tryz.prog tyE tyB W0 (G7.rho j) := ((G9.ok hW j).all rnil_all)
theorem G7.ok {W0 : World} (hW : WOk W0) : ∀ k, PureOk Tryz.prog tyE W0 7 (G7.G k)
  | 0 => G7.zero
  | k + 1 => G7.step k fun j _ => G7.all hW j
def G23.F {R : Type} : Nat → List UInt8 → (List UInt8 → List UInt8 → Option R) → Option R
  | 0, _, _ => none
  | k + 1, h1, K => lCut h1 ([32] : Bytes) (fun r2 r3 r4 => K r2 r3)
def G23.sh : Shape := ⟨[(0, .fix (CV.ptr 1000 0))], [(1000, (.box [.str]))], []⟩
def G23.A (k : Nat) : List PV → (R : Type) → (GV → List (Nat × Ob) → Option R) → Option R := fun vs R K => G23.F k (strOf (vs.getD 1 .any)) (fun r1 o2 => K (GV.pv (PV.str r1)) [(1000, Ob.box [CV.p (PV.str o2)])])
def G23.G (k : Nat) : HeapG := argH 1 G23.sh (G23.A k)
def G23.c : Code := Tryz.f23.body.getD .skip
def G23.rho (k : Nat) : RhoF := (rp 24 G24.G rnil)
def G23.ls : List LoopE := []
def G23.cs : List CutE := []
theorem G23.tower : Tower tyE Tryz.f23.ntmps G23.c G23.rho G23.ls G23.cs := tower_of AllL.nil AllL.nil
theorem G23.body : Tryz.f23.body = some G23.c := by kernel_rfl
theorem G23.name : (Tryz.f23.name == "runtime.NumGoroutine") = false := by kernel_rfl
theorem G23.tF (k : Nat) (vs : List PV) (R : Type) (K : GV → List (Nat × Ob) → Option R) : G23.A (k + 1) vs R K = execHeap tyE (G23.rho k R) (lam tyE k G23.cs G23.ls R) Tryz.f23 (G23.sh.asOf 1 vs) (G23.sh.hOf vs) K := by kernel_rfl
theorem G23.zero {W0 : World} : HeapGOk Tryz.prog tyE tyB W0 23 (G23.G 0) := heapOk_none (enters_of Tryz.func23 G23.name (by rw [G23.body]; rfl)) (argH_none fun _ _ _ => by kernel_rfl)
theorem G23.step {W0 : World} (k : Nat) (h : ∀ j, j ≤ k → RhoAll Tryz.prog tyE tyB W0 (G23.rho j)) : HeapGOk Tryz.prog tyE tyB W0 23 (G23.G (k + 1)) := G23.tower.heapH tyOk Tryz.func23 G23.body G23.name h (G23.tF k)
theorem G23.all {W0 : World} (hW : WOk W0) (j : Nat) : RhoAll Tryz.prog tyE tyB W0 (G23.rho j) := ((G24.ok hW).all rnil_all)
theorem G23.ok {W0 : World} (hW : WOk W0) : ∀ k, HeapGOk Tryz.prog tyE tyB W0 23 (G23.G k)
  | 0 => G23.zero
  | k + 1 => G23.step k fun j _ => G23.all hW j
def G25.F {R : Type} : Nat → List UInt8 → Bool → (Int → List UInt8 → Bool → Option R) → Option R
  | 0, _, _, _ => none
  | k + 1, h1, h2, K => G23.F k h1 (fun r3 o4 => lAtoi r3 (fun r5 r6 => bif h2 then bif isIf r6 && true then bif (isNif r6 && true) then lItoa r5 (fun r7 => K r5 o4 (eqS r7 r3)) else K r5 o4 false else none else K r5 o4 false))
def G25.sh : Shape := ⟨[(0, .fix (CV.ptr 1000 0)), (1, .fix (CV.ptr 1002 0))], [(1000, (.box [.fix (CV.fn 23 [1001])])), (1001, (.box [.str])), (1002, (.box [.bool]))], []⟩
def G25.A (k : Nat) : List PV → (R : Type) → (GV → List (Nat × Ob) → Option R) → Option R := fun vs R K => G25.F k (strOf (vs.getD 3 .any)) (boolOf (vs.getD 4 .any)) (fun r1 o2 o3 => K (GV.pv (PV.int .i64 r1)) [(1000, Ob.box [CV.fn 23 [1001]]), (1001, Ob.box [CV.p (PV.str o2)]), (1002, Ob.box [CV.p (PV.bool o3)])])
def G25.G (k : Nat) : HeapG := argH 2 G25.sh (G25.A k)
def G25.c : Code := Tryz.f25.body.getD .skip
def G25.rho (k : Nat) : RhoF := (rh 23 (G23.G k) (rp 26 G26.G (rp 27 G27.G rnil)))
def G25.ls : List LoopE := []
def G25.cs : List CutE := []
theorem G25.tower : Tower tyE Tryz.f25.ntmps G25.c G25.rho G25.ls G25.cs := tower_of AllL.nil AllL.nil
theorem G25.body : Tryz.f25.body = some G25.c := by kernel_rfl
theorem G25.name : (Tryz.f25.name == "runtime.NumGoroutine") = false := by kernel_rfl
theorem G25.tF (k : Nat) (vs : List PV) (R : Type) (K : GV → List (Nat × Ob) → Option R) : G25.A (k + 1) vs R K = execHeap tyE (G25.rho k R) (lam tyE k G25.cs G25.ls R) Tryz.f25 (G25.sh.asOf 2 vs) (G25.sh.hOf vs) K := by kernel_rfl
theorem G25.zero {W0 : World} : HeapGOk Tryz.prog tyE tyB W0 25 (G25.G 0) := heapOk_none (enters_of Tryz.func25 G25.name (by rw [G25.body]; rfl)) (argH_none fun _ _ _ => by kernel_rfl)
theorem G25.step {W0 : World} (k : Nat) (h : ∀ j, j ≤ k → RhoAll Tryz.prog tyE tyB W0 (G25.rho j)) : HeapGOk Tryz.prog tyE tyB W0 25 (G25.G (k + 1)) := G25.tower.heapH tyOk Tryz.func25 G25.body G25.name h (G25.tF k)
theorem G25.all {W0 : World} (hW : WOk W0) (j : Nat) : RhoAll Tryz.prog tyE tyB W0 (G25.rho j) := ((G23.ok hW j).all ((G26.ok hW).all ((G27.ok hW).all rnil_all)))
theorem G25.ok {W0 : World} (hW : WOk W0) : ∀ k, HeapGOk Tryz.prog tyE tyB W0 25 (G25.G k)
  | 0 => G25.zero
  | k + 1 => G25.step k fun j _ => G25.all hW j
def G118.F {R : Type} : Nat → List UInt8 → List UInt8 → Bool → (Bool → List UInt8 → Bool → Option R) → Option R
  | 0, _, _, _, _ => none
  | k + 1, a1, h2, h3, K => lCutPrefix h2 a1 (fun r4 r5 => K r5 r4 h3)
def G118.sh : Shape := ⟨[(0, .fix (CV.ptr 1000 0)), (1, .str)], [(1000, (.box [.str, .bool]))], []⟩
def G118.A (k : Nat) : List PV → (R : Type) → (GV → List (Nat × Ob) → Option R) → Option R := fun vs R K => G118.F k (strOf (vs.getD 1 .any)) (strOf (vs.getD 2 .any)) (boolOf (vs.getD 3 .any)) (fun r1 o2 o3 => K (GV.pv (PV.bool r1)) [(1000, Ob.box [CV.p (PV.str o2), CV.p (PV.bool o3)])])
def G118.G (k : Nat) : HeapG := argH 2 G118.sh (G118.A k)
def G118.c : Code := Tryz.f118.body.getD .skip
def G118.rho (k : Nat) : RhoF := (rp 144 G144.G rnil)
def G118.ls : List LoopE := []
def G118.cs : List CutE := []
theorem G118.tower : Tower tyE Tryz.f118.ntmps G118.c G118.rho G118.ls G118.cs := tower_of AllL.nil AllL.nil
theorem G118.body : Tryz.f118.body = some G118.c := by kernel_rfl
theorem G118.name : (Tryz.f118.name == "runtime.NumGoroutine") = false := by kernel_rfl
theorem G118.tF (k : Nat) (vs : List PV) (R : Type) (K : GV → List (Nat × Ob) → Option R) : G118.A (k + 1) vs R K = execHeap tyE (G118.rho k R) (lam tyE k G118.cs G118.ls R) Tryz.f118 (G118.sh.asOf 2 vs) (G118.sh.hOf vs) K := by kernel_rfl
theorem G118.zero {W0 : World} : HeapGOk Tryz.prog tyE tyB W0 118 (G118.G 0) := heapOk_none (enters_of Tryz.func118 G118.name (by rw [G118.body]; rfl)) (argH_none fun _ _ _ => by kernel_rfl)
theorem G118.step {W0 : World} (k : Nat) (h : ∀ j, j ≤ k → RhoAll Tryz.prog tyE tyB W0 (G118.rho j)) : HeapGOk Tryz.prog tyE tyB W0 118 (G118.G (k + 1)) := G118.tower.heapH tyOk Tryz.func118 G118.body G118.name h (G118.tF k)
theorem G118.all {W0 : World} (hW : WOk W0) (j : Nat) : RhoAll Tryz.prog tyE tyB W0 (G118.rho j) := ((G144.ok hW).all rnil_all)
theorem G118.ok {W0 : World} (hW : WOk W0) : ∀ k, HeapGOk Tryz.prog tyE tyB W0 118 (G118.G k)
  | 0 => G118.zero
  | k + 1 => G118.step k fun j _ => G118.all hW j
def G119.F {R : Type} : Nat → List UInt8 → List UInt8 → Bool → (List UInt8 → Bool → Option R) → Option R
  | 0, _, _, _, _ => none
  | k + 1, a1, h2, h3, K => G118.F k a1 h2 h3 (fun r4 o5 o6 => bif !r4 then K o5 true else K o5 o6)
def G119.sh : Shape := ⟨[(0, .fix (CV.ptr 1000 0)), (1, .str)], [(1000, (.box [.str, .bool]))], []⟩
def G119.A (k : Nat) : List PV → (R : Type) → (GV → List (Nat × Ob) → Option R) → Option R := fun vs R K => G119.F k (strOf (vs.getD 1 .any)) (strOf (vs.getD 2 .any)) (boolOf (vs.getD 3 .any)) (fun o1 o2 => K (GV.tup []) [(1000, Ob.box [CV.p (PV.str o1), CV.p (PV.bool o2)])])
def G119.G (k : Nat) : HeapG := argH 2 G119.sh (G119.A k)
def G119.c : Code := Tryz.f119.body.getD .skip
def G119.rho (k : Nat) : RhoF := (rh 118 (G118.G k) rnil)
def G119.ls : List LoopE := []
def G119.cs : List CutE := []
theorem G119.tower : Tower tyE Tryz.f119.ntmps G119.c G119.rho G119.ls G119.cs := tower_of AllL.nil AllL.nil
theorem G119.body : Tryz.f119.body = some G119.c := by kernel_rfl
theorem G119.name : (Tryz.f119.name == "runtime.NumGoroutine") = false := by kernel_rfl
theorem G119.tF (k : Nat) (vs : List PV) (R : Type) (K : GV → List (Nat × Ob) → Option R) : G119.A (k + 1) vs R K = execHeap tyE (G119.rho k R) (lam tyE k G119.cs G119.ls R) Tryz.f119 (G119.sh.asOf 2 vs) (G119.sh.hOf vs) K := by kernel_rfl
theorem G119.zero {W0 : World} : HeapGOk Tryz.prog tyE tyB W0 119 (G119.G 0) := heapOk_none (enters_of Tryz.func119 G119.name (by rw [G119.body]; rfl)) (argH_none fun _ _ _ => by kernel_rfl)
theorem G119.step {W0 : World} (k : Nat) (h : ∀ j, j ≤ k → RhoAll Tryz.prog tyE tyB W0 (G119.rho j)) : HeapGOk Tryz.prog tyE tyB W0 119 (G119.G (k + 1)) := G119.tower.heapH tyOk Tryz.func119 G119.body G119.name h (G119.tF k)
theorem G119.all {W0 : World} (hW : WOk W0) (j : Nat) : RhoAll Tryz.prog tyE tyB W0 (G119.rho j) := ((G118.ok hW j).all rnil_all)
theorem G119.ok {W0 : World} (hW : WOk W0) : ∀ k, HeapGOk Tryz.prog tyE tyB W0 119 (G119.G k)
  | 0 => G119.zero
  | k + 1 => G119.step k fun j _ => G119.all hW j
def G120.J12 {R : Type} (k : Nat) (x1 : Int) (x2 : List PV) (x3 : List UInt8) (x4 : Bool) (Kn : (Int → List PV → List UInt8 → Bool → Option R)) : Option R := bif ltI x1 ((x3.length : Nat) : Int) then bif inI x1 ((x3.length : Nat) : Int) then bif leN (x2.length + 1) LIM then Kn x1 (x2 ++ [PV.int .u8 ((x3.getD (Int.toNat x1) 0).toNat : Int)]) x3 x4 else none else none else Kn x1 x2 x3 x4
def G120.J6 {R : Type} (k : Nat) (x1 : Int) (x2 : List PV) (x3 : List UInt8) (x4 : Bool) (Kr : (List UInt8 → List UInt8 → Bool → Option R)) (Kn : (Int → List PV → List UInt8 → Bool → Option R)) : Option R := bif inI x1 ((x3.length : Nat) : Int) then bif eqI ((x3.getD (Int.toNat x1) 0).toNat : Int) 34 then bif inR (IntKind.i64.wrap (x1 + 1)) ((x3.length : Nat) : Int) ((x3.length : Nat) : Int) then bif x2.all (isInt .u8) then Kr (ofBytes x2) (sub x3 (IntKind.i64.wrap (x1 + 1)) ((x3.length : Nat) : Int)) x4 else none else none else bif eqI ((x3.getD (Int.toNat x1) 0).toNat : Int) 92 then G120.J12 k (IntKind.i64.wrap (x1 + 1)) x2 x3 x4 (fun y5 y6 y7 y8 => Kn (IntKind.i64.wrap (y5 + 1)) y6 y7 y8) else G120.J12 k x1 x2 x3 x4 (fun y9 y10 y11 y12 => Kn (IntKind.i64.wrap (y9 + 1)) y10 y11 y12) else none
def G120.L4 {R : Type} : Nat → Int → List PV → List UInt8 → Bool → (List UInt8 → Bool → Option R) → (List UInt8 → List UInt8 → Bool → Option R) → Option R
  | 0, _, _, _, _, _, _ => none
  | k + 1, x1, x2, x3, x4, K0, Kr => bif ltI x1 ((x3.length : Nat) : Int) then bif !x4 then G120.J6 k x1 x2 x3 x4 (fun y5 y6 y7 => Kr y5 y6 y7) (fun y8 y9 y10 y11 => G120.L4 k y8 y9 y10 y11 K0 Kr) else K0 x3 x4 else K0 x3 x4
def G120.F {R : Type} : Nat → List UInt8 → Bool → (List UInt8 → List UInt8 → Bool → Option R) → Option R
  | 0, _, _, _ => none
  | k + 1, h1, h2, K => G119.F k ([34] : Bytes) h1 h2 (fun o3 o4 => G120.L4 k 0 [] o3 o4 (fun y5 y6 => K ([] : Bytes) y5 true) (fun y7 y8 y9 => K y7 y8 y9))
def G120.sh : Shape := ⟨[(0, .fix (CV.ptr 1000 0))], [(1000, (.box [.str, .bool]))], []⟩
def G120.A (k : Nat) : List PV → (R : Type) → (GV → List (Nat × Ob) → Option R) → Option R := fun vs R K => G120.F k (strOf (vs.getD 1 .any)) (boolOf (vs.getD 2 .any)) (fun r1 o2 o3 => K (GV.pv (PV.str r1)) [(1000, Ob.box [CV.p (PV.str o2), CV.p (PV.bool o3)])])
def G120.G (k : Nat) : HeapG := argH 1 G120.sh (G120.A k)
def G120.c : Code := Tryz.f120.body.getD .skip
def G120.rho (k : Nat) : RhoF := (rh 119 (G119.G k) rnil)
def G120.sL4 : Shape := ⟨[(0, .fix (CV.ptr 1000 0)), (3, .fix (CV.orow 3)), (4, .int .i64)], [(3, (.row 5)), (1000, (.box [.str, .bool]))], []⟩
def G120.xL4_0 : Shape := ⟨[(0, .fix (CV.ptr 1000 0))], [(1000, (.box [.str, .bool]))], []⟩
def G120.xL4_r : Shape := ⟨[(2, .str)], [(1000, (.box [.str, .bool]))], []⟩
def G120.mL4 : Exit → St → St := maskOf tyE [(0, G120.xL4_0)] G120.xL4_r noSh
def G120.eL4 : LoopE := ⟨4, G120.sL4, G120.mL4, fun k vs R K => G120.L4 k (intOf (vs.getD 2 .any)) (slOf (vs.getD 3 .any)) (strOf (vs.getD 4 .any)) (boolOf (vs.getD 5 .any)) (fun y1 y2 => K (.exit 0) (G120.xL4_0.build [.any, PV.str y1, PV.bool y2])) (fun y0 y1 y2 => K (.ret) (G120.xL4_r.build [PV.str y0, PV.str y1, PV.bool y2]))⟩
def G120.sJ6 : Shape := ⟨[(0, .fix (CV.ptr 1000 0)), (3, .fix (CV.orow 3)), (4, .int .i64)], [(3, (.row 5)), (1000, (.box [.str, .bool]))], []⟩
def G120.xJ6_r : Shape := ⟨[(2, .str)], [(1000, (.box [.str, .bool]))], []⟩
def G120.xJ6_n : Shape := ⟨[(0, .fix (CV.ptr 1000 0)), (3, .fix (CV.orow 3)), (4, .int .i64)], [(3, (.row 5)), (1000, (.box [.str, .bool]))], []⟩
def G120.mJ6 : Exit → St → St := maskOf tyE [] G120.xJ6_r G120.xJ6_n
def G120.eJ6 : CutE := ⟨6, G120.sJ6, G120.mJ6, fun k vs R K => G120.J6 k (intOf (vs.getD 2 .any)) (slOf (vs.getD 3 .any)) (strOf (vs.getD 4 .any)) (boolOf (vs.getD 5 .any)) (fun y0 y1 y2 => K (.ret) (G120.xJ6_r.build [PV.str y0, PV.str y1, PV.bool y2])) (fun y2 y3 y4 y5 => K (.normal) (G120.xJ6_n.build [.any, .any, PV.int .i64 y2, PV.sl 0 y3, PV.str y4, PV.bool y5]))⟩
def G120.sJ12 : Shape := ⟨[(0, .fix (CV.ptr 1000 0)), (3, .fix (CV.orow 3)), (4, .int .i64)], [(3, (.row 5)), (1000, (.box [.str, .bool]))], []⟩
def G120.xJ12_n : Shape := ⟨[(0, .fix (CV.ptr 1000 0)), (3, .fix (CV.orow 3)), (4, .int .i64)], [(3, (.row 5)), (1000, (.box [.str, .bool]))], []⟩
def G120.mJ12 : Exit → St → St := maskOf tyE [] noSh G120.xJ12_n
def G120.eJ12 : CutE := ⟨12, G120.sJ12, G120.mJ12, fun k vs R K => G120.J12 k (intOf (vs.getD 2 .any)) (slOf (vs.getD 3 .any)) (strOf (vs.getD 4 .any)) (boolOf (vs.getD 5 .any)) (fun y2 y3 y4 y5 => K (.normal) (G120.xJ12_n.build [.any, .any, PV.int .i64 y2, PV.sl 0 y3, PV.str y4, PV.bool y5]))⟩
def G120.ls : List LoopE := [G120.eL4]
def G120.cs : List CutE := [G120.eJ6, G120.eJ12]
theorem G120.tL4 (k : Nat) (vs : List PV) (R : Type) (K : Exit → St → Option R) : G120.eL4.L (k + 1) vs R K = exec tyE Tryz.f120.ntmps (G120.rho k R) (lam tyE k G120.cs G120.ls R) (loopAt G120.c 4) (G120.sL4.build vs) (loopK tyE G120.eL4 k K) := by kernel_rfl
theorem G120.tJ6 (k : Nat) (vs : List PV) (R : Type) (K : Exit → St → Option R) : G120.eJ6.J k vs R K = exec tyE Tryz.f120.ntmps (G120.rho k R) (lam tyE k G120.cs G120.ls R) (secondAt G120.c 6) (G120.sJ6.build vs) (fun x st => K x (G120.mJ6 x st)) := by kernel_rfl
theorem G120.tJ12 (k : Nat) (vs : List PV) (R : Type) (K : Exit → St → Option R) : G120.eJ12.J k vs R K = exec tyE Tryz.f120.ntmps (G120.rho k R) (lam tyE k G120.cs G120.ls R) (secondAt G120.c 12) (G120.sJ12.build vs) (fun x st => K x (G120.mJ12 x st)) := by kernel_rfl
theorem G120.tower : Tower tyE Tryz.f120.ntmps G120.c G120.rho G120.ls G120.cs := tower_of (AllL.cons ⟨by kernel_rfl, fun _ _ _ => by kernel_rfl, maskOf_weak tyE [(0, G120.xL4_0)] G120.xL4_r noSh, G120.tL4⟩ AllL.nil) (AllL.cons ⟨by kernel_rfl, maskOf_weak tyE [] G120.xJ6_r G120.xJ6_n, G120.tJ6⟩ (AllL.cons ⟨by kernel_rfl, maskOf_weak tyE [] noSh G120.xJ12_n, G120.tJ12⟩ AllL.nil))
theorem G120.body : Tryz.f120.body = some G120.c := by kernel_rfl
theorem G120.name : (Tryz.f120.name == "runtime.NumGoroutine") = false := by kernel_rfl
theorem G120.tF (k : Nat) (vs : List PV) (R : Type) (K : GV → List (Nat × Ob) → Option R) : G120.A (k + 1) vs R K = execHeap tyE (G120.rho k R) (lam tyE k G120.cs G120.ls R) Tryz.f120 (G120.sh.asOf 1 vs) (G120.sh.hOf vs) K := by kernel_rfl
theorem G120.zero {W0 : World} : HeapGOk Tryz.prog tyE tyB W0 120 (G120.G 0) := heapOk_none (enters_of Tryz.func120 G120.name (by rw [G120.body]; rfl)) (argH_none fun _ _ _ => by kernel_rfl)
theorem G120.step {W0 : World} (k : Nat) (h : ∀ j, j ≤ k → RhoAll Tryz.prog tyE tyB W0 (G120.rho j)) : HeapGOk Tryz.prog tyE tyB W0 120 (G120.G (k + 1)) := G120.tower.heapH tyOk Tryz.func120 G120.body G120.name h (G120.tF k)
theorem G120.all {W0 : World} (hW : WOk W0) (j : Nat) : RhoAll Tryz.prog tyE tyB W0 (G120.rho j) := ((G119.ok hW j).all rnil_all)
theorem G120.ok {W0 : World} (hW : WOk W0) : ∀ k, HeapGOk Tryz.prog tyE tyB W0 120 (G120.G k)
  | 0 => G120.zero
  | k + 1 => G120.step k fun j _ => G120.all hW j
end
end Go.Dip
end
