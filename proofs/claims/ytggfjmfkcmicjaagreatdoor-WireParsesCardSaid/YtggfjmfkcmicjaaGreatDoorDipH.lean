/- Joined by program out of: Fun3. -/
import Derived.Test.YtggfjmfkcmicjaaGreatDoorDipG
import Derived.KernelRfl
set_option linter.all false
/- Printed by program: the functions of a seat, plainly, and that they are what the evaluator says. -/
section
set_option linter.unusedVariables false
set_option maxRecDepth 100000
namespace Go.Dip
open Go.Proofs
noncomputable section
def G32.J9 {R : Type} (k : Nat) (x1 : Bool) (x2 : Bool) (x3 : PV) (x4 : PV) (x5 : PV) (x6 : PV) (x7 : PV) (x8 : PV) (Kr : (Bool → Option R)) (Kn : Option R) : Option R := bif x2 then bif x1 then bif (isStr x7 && true) then G57.F k (strOf x7) (fun r9 => bif r9 then bif isSl 5 x6 then bif eqI (((slOf x6).length : Nat) : Int) 0 then bif isStr x8 then Kr (eqS (strOf x8) ([] : Bytes)) else none else Kr false else none else Kr false) else none else Kr false else Kn
def G32.J2 {R : Type} (k : Nat) (x1 : Bool) (x2 : PV) (x3 : PV) (x4 : PV) (x5 : PV) (x6 : PV) (x7 : PV) (Kr : (Bool → Option R)) : Option R := bif isInt .u8 x2 then bif eqI (intOf x2) 114 then bif x1 then bif (isSl 5 x5 && true) then G55.F k (slOf x5) (fun r8 => bif (isSl 5 x5 && true) then G30.F k r8 (slOf x5) (fun r9 => bif r9 then bif x5.isOne then G56.F k (PV.agg [PV.str ([120] : Bytes), PV.str [], PV.sl 1 [], PV.sl 2 [], x5]) (fun r10 => bif r10 then bif isStr x6 then bif eqS (strOf x6) ([] : Bytes) then bif isStr x7 then Kr (eqS (strOf x7) ([] : Bytes)) else none else Kr false else none else Kr false) else none else Kr false) else none) else none else Kr false else bif isInt .u8 x2 then bif eqI (intOf x2) 97 then bif isInt .i64 x3 then bif geI (intOf x3) (-1) then bif isInt .i64 x3 then bif leI (intOf x3) 1048576 then bif isInt .i64 x4 then bif eqI (intOf x4) 0 then bif (isStr x6 && true) then G57.F k (strOf x6) (fun r11 => bif r11 then bif (isStr x7 && true) then G58.F k (strOf x7) (fun r12 => bif r12 then bif isSl 5 x5 then Kr (eqI (((slOf x5).length : Nat) : Int) 0) else none else Kr false) else none else Kr false) else none else Kr false else none else Kr false else none else Kr false else none else bif isInt .u8 x2 then bif eqI (intOf x2) 109 then G32.J9 k x1 true x2 x3 x4 x5 x6 x7 (fun y13 => Kr y13) ( Kr false) else bif isInt .u8 x2 then G32.J9 k x1 (eqI (intOf x2) 117) x2 x3 x4 x5 x6 x7 (fun y14 => Kr y14) ( Kr false) else none else none else none else none
def G32.F {R : Type} : Nat → PV → (Bool → Option R) → Option R
  | 0, _, _ => none
  | k + 1, a1, K => bif PV.isAgg 6 a1 then bif isInt .i64 (pcell a1 1) then bif geI (intOf (pcell a1 1)) 0 then bif isInt .i64 (pcell a1 1) then bif isInt .i64 (pcell a1 2) then bif leI (intOf (pcell a1 1)) (intOf (pcell a1 2)) then bif isInt .i64 (pcell a1 2) then G32.J2 k (leI (intOf (pcell a1 2)) 1048576) (pcell a1 0) (pcell a1 1) (pcell a1 2) (pcell a1 3) (pcell a1 4) (pcell a1 5) (fun y2 => K y2) else none else G32.J2 k false (pcell a1 0) (pcell a1 1) (pcell a1 2) (pcell a1 3) (pcell a1 4) (pcell a1 5) (fun y3 => K y3) else none else none else G32.J2 k false (pcell a1 0) (pcell a1 1) (pcell a1 2) (pcell a1 3) (pcell a1 4) (pcell a1 5) (fun y4 => K y4) else none else none
def G32.ks : List AK := [.pv]
def G32.A (k : Nat) : List PV → Cps GV := fun vs R K => G32.F k (vs.getD 0 .any) (fun r1 => K (GV.pv (PV.bool r1)))
def G32.G (k : Nat) : PureG := argG G32.ks (G32.A k)
def G32.c : Code := Tryz.f32.body.getD .skip
def G32.rho (k : Nat) : RhoF := (rp 55 (G55.G k) (rp 30 (G30.G k) (rp 56 (G56.G k) (rp 57 (G57.G k) (rp 58 (G58.G k) rnil)))))
def G32.sJ2 : Shape := ⟨[(1, .fix (CV.ptr 1 0)), (3, .bool)], [(1, (.box [.pv, .pv, .pv, .pv, .pv, .pv]))], []⟩
def G32.xJ2_r : Shape := ⟨[(2, .bool)], [], []⟩
def G32.mJ2 : Exit → St → St := maskOf tyE [] G32.xJ2_r noSh
def G32.eJ2 : CutE := ⟨2, G32.sJ2, G32.mJ2, fun k vs R K => G32.J2 k (boolOf (vs.getD 1 .any)) (vs.getD 2 .any) (vs.getD 3 .any) (vs.getD 4 .any) (vs.getD 5 .any) (vs.getD 6 .any) (vs.getD 7 .any) (fun y0 => K (.ret) (G32.xJ2_r.build [PV.bool y0]))⟩
def G32.sJ9 : Shape := ⟨[(1, .fix (CV.ptr 1 0)), (3, .bool), (79, .bool)], [(1, (.box [.pv, .pv, .pv, .pv, .pv, .pv]))], []⟩
def G32.xJ9_r : Shape := ⟨[(2, .bool)], [], []⟩
def G32.xJ9_n : Shape := ⟨[], [], []⟩
def G32.mJ9 : Exit → St → St := maskOf tyE [] G32.xJ9_r G32.xJ9_n
def G32.eJ9 : CutE := ⟨9, G32.sJ9, G32.mJ9, fun k vs R K => G32.J9 k (boolOf (vs.getD 1 .any)) (boolOf (vs.getD 2 .any)) (vs.getD 3 .any) (vs.getD 4 .any) (vs.getD 5 .any) (vs.getD 6 .any) (vs.getD 7 .any) (vs.getD 8 .any) (fun y0 => K (.ret) (G32.xJ9_r.build [PV.bool y0])) (K (.normal) (G32.xJ9_n.build []))⟩
def G32.ls : List LoopE := []
def G32.cs : List CutE := [G32.eJ2, G32.eJ9]
theorem G32.tJ2 (k : Nat) (vs : List PV) (R : Type) (K : Exit → St → Option R) : G32.eJ2.J k vs R K = exec tyE Tryz.f32.ntmps (G32.rho k R) (lam tyE k G32.cs G32.ls R) (secondAt G32.c 2) (G32.sJ2.build vs) (fun x st => K x (G32.mJ2 x st)) := by kernel_rfl
theorem G32.tJ9 (k : Nat) (vs : List PV) (R : Type) (K : Exit → St → Option R) : G32.eJ9.J k vs R K = exec tyE Tryz.f32.ntmps (G32.rho k R) (lam tyE k G32.cs G32.ls R) (secondAt G32.c 9) (G32.sJ9.build vs) (fun x st => K x (G32.mJ9 x st)) := by kernel_rfl
theorem G32.tower : Tower tyE Tryz.f32.ntmps G32.c G32.rho G32.ls G32.cs := tower_of AllL.nil (AllL.cons ⟨by kernel_rfl, maskOf_weak tyE [] G32.xJ2_r noSh, G32.tJ2⟩ (AllL.cons ⟨by kernel_rfl, maskOf_weak tyE [] G32.xJ9_r G32.xJ9_n, G32.tJ9⟩ AllL.nil))
theorem G32.body : Tryz.f32.body = some G32.c := by kernel_rfl
theorem G32.name : (Tryz.f32.name == "runtime.NumGoroutine") = false := by kernel_rfl
theorem G32.tF (k : Nat) (vs : List PV) (R : Type) (K : GV → Option R) : G32.A (k + 1) vs R K = execPure tyE (G32.rho k R) (lam tyE k G32.cs G32.ls R) Tryz.f32 (canonArgs G32.ks 0 vs) K := by kernel_rfl
theorem G32.zero {W0 : World} : PureOk Tryz.prog tyE W0 32 (G32.G 0) := pureOk_none (enters_of Tryz.func32 G32.name (by rw [G32.body]; rfl)) (argG_none fun _ _ _ => by kernel_rfl)
theorem G32.step {W0 : World} (k : Nat) (h : ∀ j, j ≤ k → RhoAll Tryz.prog tyE tyB W0 (G32.rho j)) : PureOk Tryz.prog tyE W0 32 (G32.G (k + 1)) := G32.tower.pure tyOk Tryz.func32 G32.body G32.name h (argG_ok (G32.tF k))
theorem G32.all {W0 : World} (hW : WOk W0) (j : Nat) : RhoAll Tryz.prog tyE tyB W0 (G32.rho j) := ((G55.ok hW j).all ((G30.ok hW j).all ((G56.ok hW j).all ((G57.ok hW j).all ((G58.ok hW j).all rnil_all)))))
theorem G32.ok {W0 : World} (hW : WOk W0) : ∀ k, PureOk Tryz.prog tyE W0 32 (G32.G k)
  | 0 => G32.zero
  | k + 1 => G32.step k fun j _ => G32.all hW j
def G59.J5 {R : Type} (k : Nat) (x1 : Int) (x2 : List UInt8) (Kn : (Int → List UInt8 → Option R)) : Option R := bif inR (Int.tmod x1 10) (IntKind.i64.wrap ((Int.tmod x1 10) + 1)) ((([48, 49, 50, 51, 52, 53, 54, 55, 56, 57] : Bytes).length : Nat) : Int) then bif leN ((sub ([48, 49, 50, 51, 52, 53, 54, 55, 56, 57] : Bytes) (Int.tmod x1 10) (IntKind.i64.wrap ((Int.tmod x1 10) + 1))).length + x2.length) LIM then Kn (IntKind.i64.wrap (Int.tdiv x1 10)) ((sub ([48, 49, 50, 51, 52, 53, 54, 55, 56, 57] : Bytes) (Int.tmod x1 10) (IntKind.i64.wrap ((Int.tmod x1 10) + 1))) ++ x2) else none else none
mutual
def G59.F {R : Type} : Nat → Int → (List UInt8 → Option R) → Option R
  | 0, _, _ => none
  | k + 1, a1, K => bif ltI a1 0 then G59.F k (IntKind.i64.wrap (0 - a1)) (fun r2 => bif leN (([45] : Bytes).length + r2.length) LIM then K (([45] : Bytes) ++ r2) else none) else G59.L4 k a1 ([] : Bytes) (fun y3 => K y3)
def G59.L4 {R : Type} : Nat → Int → List UInt8 → (List UInt8 → Option R) → Option R
  | 0, _, _, _ => none
  | k + 1, x1, x2, K0 => bif gtI x1 0 then G59.J5 k x1 x2 (fun y3 y4 => G59.L4 k y3 y4 K0) else bif eqS x2 ([] : Bytes) then G59.J5 k x1 x2 (fun y5 y6 => G59.L4 k y5 y6 K0) else K0 x2
end
def G59.ks : List AK := [.int .i64]
def G59.A (k : Nat) : List PV → Cps GV := fun vs R K => G59.F k (intOf (vs.getD 0 .any)) (fun r1 => K (GV.pv (PV.str r1)))
def G59.G (k : Nat) : PureG := argG G59.ks (G59.A k)
def G59.c : Code := Tryz.f59.body.getD .skip
def G59.rho (k : Nat) : RhoF := (rp 59 (G59.G k) rnil)
def G59.sL4 : Shape := ⟨[(0, .int .i64), (3, .str)], [], []⟩
def G59.xL4_0 : Shape := ⟨[(3, .str)], [], []⟩
def G59.mL4 : Exit → St → St := maskOf tyE [(0, G59.xL4_0)] noSh noSh
def G59.eL4 : LoopE := ⟨4, G59.sL4, G59.mL4, fun k vs R K => G59.L4 k (intOf (vs.getD 0 .any)) (strOf (vs.getD 1 .any)) (fun y0 => K (.exit 0) (G59.xL4_0.build [PV.str y0]))⟩
def G59.sJ5 : Shape := ⟨[(0, .int .i64), (3, .str)], [], []⟩
def G59.xJ5_n : Shape := ⟨[(0, .int .i64), (3, .str)], [], []⟩
def G59.mJ5 : Exit → St → St := maskOf tyE [] noSh G59.xJ5_n
def G59.eJ5 : CutE := ⟨5, G59.sJ5, G59.mJ5, fun k vs R K => G59.J5 k (intOf (vs.getD 0 .any)) (strOf (vs.getD 1 .any)) (fun y0 y1 => K (.normal) (G59.xJ5_n.build [PV.int .i64 y0, PV.str y1]))⟩
def G59.ls : List LoopE := [G59.eL4]
def G59.cs : List CutE := [G59.eJ5]
theorem G59.tL4 (k : Nat) (vs : List PV) (R : Type) (K : Exit → St → Option R) : G59.eL4.L (k + 1) vs R K = exec tyE Tryz.f59.ntmps (G59.rho k R) (lam tyE k G59.cs G59.ls R) (loopAt G59.c 4) (G59.sL4.build vs) (loopK tyE G59.eL4 k K) := by kernel_rfl
theorem G59.tJ5 (k : Nat) (vs : List PV) (R : Type) (K : Exit → St → Option R) : G59.eJ5.J k vs R K = exec tyE Tryz.f59.ntmps (G59.rho k R) (lam tyE k G59.cs G59.ls R) (secondAt G59.c 5) (G59.sJ5.build vs) (fun x st => K x (G59.mJ5 x st)) := by kernel_rfl
theorem G59.tower : Tower tyE Tryz.f59.ntmps G59.c G59.rho G59.ls G59.cs := tower_of (AllL.cons ⟨by kernel_rfl, fun _ _ _ => by kernel_rfl, maskOf_weak tyE [(0, G59.xL4_0)] noSh noSh, G59.tL4⟩ AllL.nil) (AllL.cons ⟨by kernel_rfl, maskOf_weak tyE [] noSh G59.xJ5_n, G59.tJ5⟩ AllL.nil)
theorem G59.body : Tryz.f59.body = some G59.c := by kernel_rfl
theorem G59.name : (Tryz.f59.name == "runtime.NumGoroutine") = false := by kernel_rfl
theorem G59.tF (k : Nat) (vs : List PV) (R : Type) (K : GV → Option R) : G59.A (k + 1) vs R K = execPure tyE (G59.rho k R) (lam tyE k G59.cs G59.ls R) Tryz.f59 (canonArgs G59.ks 0 vs) K := by kernel_rfl
theorem G59.zero {W0 : World} : PureOk Tryz.prog tyE W0 59 (G59.G 0) := pureOk_none (enters_of Tryz.func59 G59.name (by rw [G59.body]; rfl)) (argG_none fun _ _ _ => by kernel_rfl)
theorem G59.step {W0 : World} (k : Nat) (h : ∀ j, j ≤ k → RhoAll Tryz.prog tyE tyB W0 (G59.rho j)) : PureOk Tryz.prog tyE W0 59 (G59.G (k + 1)) := G59.tower.pure tyOk Tryz.func59 G59.body G59.name h (argG_ok (G59.tF k))
theorem G59.scc {W0 : World} (hW : WOk W0) : ∀ k, PureOk Tryz.prog tyE W0 59 (G59.G k) := by
  intro k
  induction k using Nat.strongRecOn with
  | _ k ih =>
    cases k with
    | zero => exact G59.zero
    | succ k => exact G59.step k (fun j hj => ((ih j (Nat.lt_succ_of_le hj)).all rnil_all))
theorem G59.ok {W0 : World} (hW : WOk W0) (k : Nat) : PureOk Tryz.prog tyE W0 59 (G59.G k) := (G59.scc hW k)
def G33.F {R : Type} : Nat → PV → (List UInt8 → Option R) → Option R
  | 0, _, _ => none
  | k + 1, a1, K => bif PV.isAgg 6 a1 then bif isInt .u8 (pcell a1 0) then bif eqI (intOf (pcell a1 0)) 114 then bif (isInt .i64 (pcell a1 1) && true) then G59.F k (intOf (pcell a1 1)) (fun r2 => bif leN (([114, 101, 112, 108, 97, 99, 101, 32] : Bytes).length + r2.length) LIM then bif leN ((([114, 101, 112, 108, 97, 99, 101, 32] : Bytes) ++ r2).length + ([32] : Bytes).length) LIM then bif (isInt .i64 (pcell a1 2) && true) then G59.F k (intOf (pcell a1 2)) (fun r3 => bif leN (((([114, 101, 112, 108, 97, 99, 101, 32] : Bytes) ++ r2) ++ ([32] : Bytes)).length + r3.length) LIM then bif isSl 5 (pcell a1 3) then bif gtI (((slOf (pcell a1 3)).length : Nat) : Int) 0 then bif leN ((((([114, 101, 112, 108, 97, 99, 101, 32] : Bytes) ++ r2) ++ ([32] : Bytes)) ++ r3).length + ([32] : Bytes).length) LIM then bif (isSl 5 (pcell a1 3) && true) then G60.F k (slOf (pcell a1 3)) (fun r4 => bif leN (((((([114, 101, 112, 108, 97, 99, 101, 32] : Bytes) ++ r2) ++ ([32] : Bytes)) ++ r3) ++ ([32] : Bytes)).length + r4.length) LIM then K (((((([114, 101, 112, 108, 97, 99, 101, 32] : Bytes) ++ r2) ++ ([32] : Bytes)) ++ r3) ++ ([32] : Bytes)) ++ r4) else none) else none else none else K (((([114, 101, 112, 108, 97, 99, 101, 32] : Bytes) ++ r2) ++ ([32] : Bytes)) ++ r3) else none else none) else none else none else none) else none else bif isInt .u8 (pcell a1 0) then bif eqI (intOf (pcell a1 0)) 97 then bif (isInt .i64 (pcell a1 1) && true) then G59.F k (intOf (pcell a1 1)) (fun r5 => bif leN (([97, 116, 116, 114, 32] : Bytes).length + r5.length) LIM then bif leN ((([97, 116, 116, 114, 32] : Bytes) ++ r5).length + ([32] : Bytes).length) LIM then bif isStr (pcell a1 4) then bif leN (((([97, 116, 116, 114, 32] : Bytes) ++ r5) ++ ([32] : Bytes)).length + (strOf (pcell a1 4)).length) LIM then bif leN ((((([97, 116, 116, 114, 32] : Bytes) ++ r5) ++ ([32] : Bytes)) ++ (strOf (pcell a1 4))).length + ([32] : Bytes).length) LIM then bif (isStr (pcell a1 5) && true) then G61.F k (strOf (pcell a1 5)) (fun r6 => bif leN (((((([97, 116, 116, 114, 32] : Bytes) ++ r5) ++ ([32] : Bytes)) ++ (strOf (pcell a1 4))) ++ ([32] : Bytes)).length + r6.length) LIM then K (((((([97, 116, 116, 114, 32] : Bytes) ++ r5) ++ ([32] : Bytes)) ++ (strOf (pcell a1 4))) ++ ([32] : Bytes)) ++ r6) else none) else none else none else none else none else none else none) else none else bif isInt .u8 (pcell a1 0) then bif eqI (intOf (pcell a1 0)) 109 then bif (isInt .i64 (pcell a1 1) && true) then G59.F k (intOf (pcell a1 1)) (fun r7 => bif leN (([109, 97, 114, 107, 32] : Bytes).length + r7.length) LIM then bif leN ((([109, 97, 114, 107, 32] : Bytes) ++ r7).length + ([32] : Bytes).length) LIM then bif (isInt .i64 (pcell a1 2) && true) then G59.F k (intOf (pcell a1 2)) (fun r8 => bif leN (((([109, 97, 114, 107, 32] : Bytes) ++ r7) ++ ([32] : Bytes)).length + r8.length) LIM then bif leN ((((([109, 97, 114, 107, 32] : Bytes) ++ r7) ++ ([32] : Bytes)) ++ r8).length + ([32] : Bytes).length) LIM then bif isStr (pcell a1 4) then bif leN (((((([109, 97, 114, 107, 32] : Bytes) ++ r7) ++ ([32] : Bytes)) ++ r8) ++ ([32] : Bytes)).length + (strOf (pcell a1 4)).length) LIM then K (((((([109, 97, 114, 107, 32] : Bytes) ++ r7) ++ ([32] : Bytes)) ++ r8) ++ ([32] : Bytes)) ++ (strOf (pcell a1 4))) else none else none else none else none) else none else none else none) else none else bif (isInt .i64 (pcell a1 1) && true) then G59.F k (intOf (pcell a1 1)) (fun r9 => bif leN (([117, 110, 109, 97, 114, 107, 32] : Bytes).length + r9.length) LIM then bif leN ((([117, 110, 109, 97, 114, 107, 32] : Bytes) ++ r9).length + ([32] : Bytes).length) LIM then bif (isInt .i64 (pcell a1 2) && true) then G59.F k (intOf (pcell a1 2)) (fun r10 => bif leN (((([117, 110, 109, 97, 114, 107, 32] : Bytes) ++ r9) ++ ([32] : Bytes)).length + r10.length) LIM then bif leN ((((([117, 110, 109, 97, 114, 107, 32] : Bytes) ++ r9) ++ ([32] : Bytes)) ++ r10).length + ([32] : Bytes).length) LIM then bif isStr (pcell a1 4) then bif leN (((((([117, 110, 109, 97, 114, 107, 32] : Bytes) ++ r9) ++ ([32] : Bytes)) ++ r10) ++ ([32] : Bytes)).length + (strOf (pcell a1 4)).length) LIM then K (((((([117, 110, 109, 97, 114, 107, 32] : Bytes) ++ r9) ++ ([32] : Bytes)) ++ r10) ++ ([32] : Bytes)) ++ (strOf (pcell a1 4))) else none else none else none else none) else none else none else none) else none else none else none else none else none
def G33.ks : List AK := [.pv]
def G33.A (k : Nat) : List PV → Cps GV := fun vs R K => G33.F k (vs.getD 0 .any) (fun r1 => K (GV.pv (PV.str r1)))
def G33.G (k : Nat) : PureG := argG G33.ks (G33.A k)
def G33.c : Code := Tryz.f33.body.getD .skip
def G33.rho (k : Nat) : RhoF := (rp 59 (G59.G k) (rp 60 (G60.G k) (rp 61 (G61.G k) rnil)))
def G33.ls : List LoopE := []
def G33.cs : List CutE := []
theorem G33.tower : Tower tyE Tryz.f33.ntmps G33.c G33.rho G33.ls G33.cs := tower_of AllL.nil AllL.nil
theorem G33.body : Tryz.f33.body = some G33.c := by kernel_rfl
theorem G33.name : (Tryz.f33.name == "runtime.NumGoroutine") = false := by kernel_rfl
theorem G33.tF (k : Nat) (vs : List PV) (R : Type) (K : GV → Option R) : G33.A (k + 1) vs R K = execPure tyE (G33.rho k R) (lam tyE k G33.cs G33.ls R) Tryz.f33 (canonArgs G33.ks 0 vs) K := by kernel_rfl
theorem G33.zero {W0 : World} : PureOk Tryz.prog tyE W0 33 (G33.G 0) := pureOk_none (enters_of Tryz.func33 G33.name (by rw [G33.body]; rfl)) (argG_none fun _ _ _ => by kernel_rfl)
theorem G33.step {W0 : World} (k : Nat) (h : ∀ j, j ≤ k → RhoAll Tryz.prog tyE tyB W0 (G33.rho j)) : PureOk Tryz.prog tyE W0 33 (G33.G (k + 1)) := G33.tower.pure tyOk Tryz.func33 G33.body G33.name h (argG_ok (G33.tF k))
theorem G33.all {W0 : World} (hW : WOk W0) (j : Nat) : RhoAll Tryz.prog tyE tyB W0 (G33.rho j) := ((G59.ok hW j).all ((G60.ok hW j).all ((G61.ok hW j).all rnil_all)))
theorem G33.ok {W0 : World} (hW : WOk W0) : ∀ k, PureOk Tryz.prog tyE W0 33 (G33.G k)
  | 0 => G33.zero
  | k + 1 => G33.step k fun j _ => G33.all hW j
mutual
def G85.F {R : Type} : Nat → PV → (Int → Option R) → Option R
  | 0, _, _ => none
  | k + 1, a1, K => bif PV.isAgg 5 a1 then bif isStr (pcell a1 0) then bif eqS (strOf (pcell a1 0)) ([116, 101, 120, 116] : Bytes) then K 0 else G85.L5 k 0 0 (pcell a1 0) (pcell a1 1) (pcell a1 2) (pcell a1 3) (pcell a1 4) (fun y2 => K (IntKind.i64.wrap (y2 + 1))) else none else none
def G85.L5 {R : Type} : Nat → Int → Int → PV → PV → PV → PV → PV → (Int → Option R) → Option R
  | 0, _, _, _, _, _, _, _, _ => none
  | k + 1, x1, x2, x3, x4, x5, x6, x7, K0 => bif isSl 5 x7 then bif ltI x2 (((slOf x7).length : Nat) : Int) then bif isSl 5 x7 && inI x2 (((slOf x7).length : Nat) : Int) then G85.F k (PV.agg [pcell (pat (slOf x7) x2) 0, pcell (pat (slOf x7) x2) 1, pcell (pat (slOf x7) x2) 2, pcell (pat (slOf x7) x2) 3, pcell (pat (slOf x7) x2) 4]) (fun r8 => G85.L5 k (max x1 r8) (IntKind.i64.wrap (x2 + 1)) x3 x4 x5 x6 x7 K0) else none else K0 x1 else none
end
def G85.ks : List AK := [.pv]
def G85.A (k : Nat) : List PV → Cps GV := fun vs R K => G85.F k (vs.getD 0 .any) (fun r1 => K (GV.pv (PV.int .i64 r1)))
def G85.G (k : Nat) : PureG := argG G85.ks (G85.A k)
def G85.c : Code := Tryz.f85.body.getD .skip
def G85.rho (k : Nat) : RhoF := (rp 85 (G85.G k) rnil)
def G85.sL5 : Shape := ⟨[(1, .fix (CV.ptr 1 0)), (3, .int .i64), (4, .int .i64)], [(1, (.box [.pv, .pv, .pv, .pv, .pv]))], []⟩
def G85.xL5_0 : Shape := ⟨[(3, .int .i64)], [], []⟩
def G85.mL5 : Exit → St → St := maskOf tyE [(0, G85.xL5_0)] noSh noSh
def G85.eL5 : LoopE := ⟨5, G85.sL5, G85.mL5, fun k vs R K => G85.L5 k (intOf (vs.getD 1 .any)) (intOf (vs.getD 2 .any)) (vs.getD 3 .any) (vs.getD 4 .any) (vs.getD 5 .any) (vs.getD 6 .any) (vs.getD 7 .any) (fun y0 => K (.exit 0) (G85.xL5_0.build [PV.int .i64 y0]))⟩
def G85.ls : List LoopE := [G85.eL5]
def G85.cs : List CutE := []
theorem G85.tL5 (k : Nat) (vs : List PV) (R : Type) (K : Exit → St → Option R) : G85.eL5.L (k + 1) vs R K = exec tyE Tryz.f85.ntmps (G85.rho k R) (lam tyE k G85.cs G85.ls R) (loopAt G85.c 5) (G85.sL5.build vs) (loopK tyE G85.eL5 k K) := by kernel_rfl
theorem G85.tower : Tower tyE Tryz.f85.ntmps G85.c G85.rho G85.ls G85.cs := tower_of (AllL.cons ⟨by kernel_rfl, fun _ _ _ => by kernel_rfl, maskOf_weak tyE [(0, G85.xL5_0)] noSh noSh, G85.tL5⟩ AllL.nil) AllL.nil
theorem G85.body : Tryz.f85.body = some G85.c := by kernel_rfl
theorem G85.name : (Tryz.f85.name == "runtime.NumGoroutine") = false := by kernel_rfl
theorem G85.tF (k : Nat) (vs : List PV) (R : Type) (K : GV → Option R) : G85.A (k + 1) vs R K = execPure tyE (G85.rho k R) (lam tyE k G85.cs G85.ls R) Tryz.f85 (canonArgs G85.ks 0 vs) K := by kernel_rfl
theorem G85.zero {W0 : World} : PureOk Tryz.prog tyE W0 85 (G85.G 0) := pureOk_none (enters_of Tryz.func85 G85.name (by rw [G85.body]; rfl)) (argG_none fun _ _ _ => by kernel_rfl)
theorem G85.step {W0 : World} (k : Nat) (h : ∀ j, j ≤ k → RhoAll Tryz.prog tyE tyB W0 (G85.rho j)) : PureOk Tryz.prog tyE W0 85 (G85.G (k + 1)) := G85.tower.pure tyOk Tryz.func85 G85.body G85.name h (argG_ok (G85.tF k))
theorem G85.scc {W0 : World} (hW : WOk W0) : ∀ k, PureOk Tryz.prog tyE W0 85 (G85.G k) := by
  intro k
  induction k using Nat.strongRecOn with
  | _ k ih =>
    cases k with
    | zero => exact G85.zero
    | succ k => exact G85.step k (fun j hj => ((ih j (Nat.lt_succ_of_le hj)).all rnil_all))
theorem G85.ok {W0 : World} (hW : WOk W0) (k : Nat) : PureOk Tryz.prog tyE W0 85 (G85.G k) := (G85.scc hW k)
mutual
def G124.F {R : Type} : Nat → List PV → (Int → Option R) → Option R
  | 0, _, _ => none
  | k + 1, a1, K => G124.L3 k a1 0 0 (fun y2 => K y2)
def G124.L3 {R : Type} : Nat → List PV → Int → Int → (Int → Option R) → Option R
  | 0, _, _, _, _ => none
  | k + 1, x1, x2, x3, K0 => bif ltI x3 ((x1.length : Nat) : Int) then bif inI x3 ((x1.length : Nat) : Int) then G86.F k (PV.agg [pcell (pat x1 x3) 0, pcell (pat x1 x3) 1, pcell (pat x1 x3) 2, pcell (pat x1 x3) 3, pcell (pat x1 x3) 4]) (fun r4 => G124.L3 k x1 (IntKind.i64.wrap (x2 + r4)) (IntKind.i64.wrap (x3 + 1)) K0) else none else K0 x2
def G86.F {R : Type} : Nat → PV → (Int → Option R) → Option R
  | 0, _, _ => none
  | k + 1, a1, K => bif PV.isAgg 5 a1 then bif isStr (pcell a1 0) then bif eqS (strOf (pcell a1 0)) ([116, 101, 120, 116] : Bytes) then bif (isStr (pcell a1 1) && true) then G123.F k (strOf (pcell a1 1)) (fun r2 r3 => K ((r2.length : Nat) : Int)) else none else bif (isSl 5 (pcell a1 4) && true) then G124.F k (slOf (pcell a1 4)) (fun r4 => K (IntKind.i64.wrap (2 + r4))) else none else none else none
end
def G86.ks : List AK := [.pv]
def G86.A (k : Nat) : List PV → Cps GV := fun vs R K => G86.F k (vs.getD 0 .any) (fun r1 => K (GV.pv (PV.int .i64 r1)))
def G86.G (k : Nat) : PureG := argG G86.ks (G86.A k)
def G124.ks : List AK := [.sl 5]
def G124.A (k : Nat) : List PV → Cps GV := fun vs R K => G124.F k (slOf (vs.getD 0 .any)) (fun r1 => K (GV.pv (PV.int .i64 r1)))
def G124.G (k : Nat) : PureG := argG G124.ks (G124.A k)
def G86.c : Code := Tryz.f86.body.getD .skip
def G86.rho (k : Nat) : RhoF := (rp 123 (G123.G k) (rp 124 (G124.G k) rnil))
def G86.ls : List LoopE := []
def G86.cs : List CutE := []
theorem G86.tower : Tower tyE Tryz.f86.ntmps G86.c G86.rho G86.ls G86.cs := tower_of AllL.nil AllL.nil
theorem G86.body : Tryz.f86.body = some G86.c := by kernel_rfl
theorem G86.name : (Tryz.f86.name == "runtime.NumGoroutine") = false := by kernel_rfl
theorem G86.tF (k : Nat) (vs : List PV) (R : Type) (K : GV → Option R) : G86.A (k + 1) vs R K = execPure tyE (G86.rho k R) (lam tyE k G86.cs G86.ls R) Tryz.f86 (canonArgs G86.ks 0 vs) K := by kernel_rfl
theorem G86.zero {W0 : World} : PureOk Tryz.prog tyE W0 86 (G86.G 0) := pureOk_none (enters_of Tryz.func86 G86.name (by rw [G86.body]; rfl)) (argG_none fun _ _ _ => by kernel_rfl)
theorem G86.step {W0 : World} (k : Nat) (h : ∀ j, j ≤ k → RhoAll Tryz.prog tyE tyB W0 (G86.rho j)) : PureOk Tryz.prog tyE W0 86 (G86.G (k + 1)) := G86.tower.pure tyOk Tryz.func86 G86.body G86.name h (argG_ok (G86.tF k))
def G124.c : Code := Tryz.f124.body.getD .skip
def G124.rho (k : Nat) : RhoF := (rp 86 (G86.G k) rnil)
def G124.sL3 : Shape := ⟨[(0, .sl 5), (3, .int .i64), (4, .int .i64)], [], []⟩
def G124.xL3_0 : Shape := ⟨[(3, .int .i64)], [], []⟩
def G124.mL3 : Exit → St → St := maskOf tyE [(0, G124.xL3_0)] noSh noSh
def G124.eL3 : LoopE := ⟨3, G124.sL3, G124.mL3, fun k vs R K => G124.L3 k (slOf (vs.getD 0 .any)) (intOf (vs.getD 1 .any)) (intOf (vs.getD 2 .any)) (fun y0 => K (.exit 0) (G124.xL3_0.build [PV.int .i64 y0]))⟩
def G124.ls : List LoopE := [G124.eL3]
def G124.cs : List CutE := []
theorem G124.tL3 (k : Nat) (vs : List PV) (R : Type) (K : Exit → St → Option R) : G124.eL3.L (k + 1) vs R K = exec tyE Tryz.f124.ntmps (G124.rho k R) (lam tyE k G124.cs G124.ls R) (loopAt G124.c 3) (G124.sL3.build vs) (loopK tyE G124.eL3 k K) := by kernel_rfl
theorem G124.tower : Tower tyE Tryz.f124.ntmps G124.c G124.rho G124.ls G124.cs := tower_of (AllL.cons ⟨by kernel_rfl, fun _ _ _ => by kernel_rfl, maskOf_weak tyE [(0, G124.xL3_0)] noSh noSh, G124.tL3⟩ AllL.nil) AllL.nil
theorem G124.body : Tryz.f124.body = some G124.c := by kernel_rfl
theorem G124.name : (Tryz.f124.name == "runtime.NumGoroutine") = false := by kernel_rfl
theorem G124.tF (k : Nat) (vs : List PV) (R : Type) (K : GV → Option R) : G124.A (k + 1) vs R K = execPure tyE (G124.rho k R) (lam tyE k G124.cs G124.ls R) Tryz.f124 (canonArgs G124.ks 0 vs) K := by kernel_rfl
theorem G124.zero {W0 : World} : PureOk Tryz.prog tyE W0 124 (G124.G 0) := pureOk_none (enters_of Tryz.func124 G124.name (by rw [G124.body]; rfl)) (argG_none fun _ _ _ => by kernel_rfl)
theorem G124.step {W0 : World} (k : Nat) (h : ∀ j, j ≤ k → RhoAll Tryz.prog tyE tyB W0 (G124.rho j)) : PureOk Tryz.prog tyE W0 124 (G124.G (k + 1)) := G124.tower.pure tyOk Tryz.func124 G124.body G124.name h (argG_ok (G124.tF k))
theorem G124.scc {W0 : World} (hW : WOk W0) : ∀ k, PureOk Tryz.prog tyE W0 86 (G86.G k) ∧ PureOk Tryz.prog tyE W0 124 (G124.G k) := by
  intro k
  induction k using Nat.strongRecOn with
  | _ k ih =>
    cases k with
    | zero => exact ⟨G86.zero, G124.zero⟩
    | succ k => exact ⟨G86.step k (fun j hj => ((G123.ok hW j).all ((ih j (Nat.lt_succ_of_le hj)).2.all rnil_all))), G124.step k (fun j hj => ((ih j (Nat.lt_succ_of_le hj)).1.all rnil_all))⟩
theorem G86.ok {W0 : World} (hW : WOk W0) (k : Nat) : PureOk Tryz.prog tyE W0 86 (G86.G k) := (G124.scc hW k).1
theorem G124.ok {W0 : World} (hW : WOk W0) (k : Nat) : PureOk Tryz.prog tyE W0 124 (G124.G k) := (G124.scc hW k).2
def G62.F {R : Type} : Nat → PV → (Int → Option R) → Option R
  | 0, _, _ => none
  | k + 1, a1, K => bif PV.isAgg 5 a1 then G56.F k (PV.agg [pcell a1 0, pcell a1 1, pcell a1 2, pcell a1 3, pcell a1 4]) (fun r2 => bif !r2 then K 2 else G85.F k (PV.agg [pcell a1 0, pcell a1 1, pcell a1 2, pcell a1 3, pcell a1 4]) (fun r3 => bif gtI r3 40 then K 4 else G86.F k (PV.agg [pcell a1 0, pcell a1 1, pcell a1 2, pcell a1 3, pcell a1 4]) (fun r4 => bif gtI r4 4000 then K 5 else K 0))) else none
def G62.ks : List AK := [.pv]
def G62.A (k : Nat) : List PV → Cps GV := fun vs R K => G62.F k (vs.getD 0 .any) (fun r1 => K (GV.pv (PV.int .i64 r1)))
def G62.G (k : Nat) : PureG := argG G62.ks (G62.A k)
def G62.c : Code := Tryz.f62.body.getD .skip
def G62.rho (k : Nat) : RhoF := (rp 56 (G56.G k) (rp 85 (G85.G k) (rp 86 (G86.G k) rnil)))
def G62.ls : List LoopE := []
def G62.cs : List CutE := []
theorem G62.tower : Tower tyE Tryz.f62.ntmps G62.c G62.rho G62.ls G62.cs := tower_of AllL.nil AllL.nil
theorem G62.body : Tryz.f62.body = some G62.c := by kernel_rfl
theorem G62.name : (Tryz.f62.name == "runtime.NumGoroutine") = false := by kernel_rfl
theorem G62.tF (k : Nat) (vs : List PV) (R : Type) (K : GV → Option R) : G62.A (k + 1) vs R K = execPure tyE (G62.rho k R) (lam tyE k G62.cs G62.ls R) Tryz.f62 (canonArgs G62.ks 0 vs) K := by kernel_rfl
theorem G62.zero {W0 : World} : PureOk Tryz.prog tyE W0 62 (G62.G 0) := pureOk_none (enters_of Tryz.func62 G62.name (by rw [G62.body]; rfl)) (argG_none fun _ _ _ => by kernel_rfl)
theorem G62.step {W0 : World} (k : Nat) (h : ∀ j, j ≤ k → RhoAll Tryz.prog tyE tyB W0 (G62.rho j)) : PureOk Tryz.prog tyE W0 62 (G62.G (k + 1)) := G62.tower.pure tyOk Tryz.func62 G62.body G62.name h (argG_ok (G62.tF k))
theorem G62.all {W0 : World} (hW : WOk W0) (j : Nat) : RhoAll Tryz.prog tyE tyB W0 (G62.rho j) := ((G56.ok hW j).all ((G85.ok hW j).all ((G86.ok hW j).all rnil_all)))
theorem G62.ok {W0 : World} (hW : WOk W0) : ∀ k, PureOk Tryz.prog tyE W0 62 (G62.G k)
  | 0 => G62.zero
  | k + 1 => G62.step k fun j _ => G62.all hW j
def G34.F {R : Type} : Nat → List PV → (List UInt8 → Int → Option R) → Option R
  | 0, _, _ => none
  | k + 1, a1, K => G62.F k (PV.agg [PV.str ([120] : Bytes), PV.str [], PV.sl 1 [], PV.sl 2 [], PV.sl 5 a1]) (fun r2 => bif !eqI r2 0 then K ([] : Bytes) r2 else G60.F k a1 (fun r3 => K r3 0))
def G34.ks : List AK := [.sl 5]
def G34.A (k : Nat) : List PV → Cps GV := fun vs R K => G34.F k (slOf (vs.getD 0 .any)) (fun r1 r2 => K (GV.tup [CV.p (PV.str r1), CV.p (PV.int .i64 r2)]))
def G34.G (k : Nat) : PureG := argG G34.ks (G34.A k)
def G34.c : Code := Tryz.f34.body.getD .skip
def G34.rho (k : Nat) : RhoF := (rp 62 (G62.G k) (rp 60 (G60.G k) rnil))
def G34.ls : List LoopE := []
def G34.cs : List CutE := []
theorem G34.tower : Tower tyE Tryz.f34.ntmps G34.c G34.rho G34.ls G34.cs := tower_of AllL.nil AllL.nil
theorem G34.body : Tryz.f34.body = some G34.c := by kernel_rfl
theorem G34.name : (Tryz.f34.name == "runtime.NumGoroutine") = false := by kernel_rfl
theorem G34.tF (k : Nat) (vs : List PV) (R : Type) (K : GV → Option R) : G34.A (k + 1) vs R K = execPure tyE (G34.rho k R) (lam tyE k G34.cs G34.ls R) Tryz.f34 (canonArgs G34.ks 0 vs) K := by kernel_rfl
theorem G34.zero {W0 : World} : PureOk Tryz.prog tyE W0 34 (G34.G 0) := pureOk_none (enters_of Tryz.func34 G34.name (by rw [G34.body]; rfl)) (argG_none fun _ _ _ => by kernel_rfl)
theorem G34.step {W0 : World} (k : Nat) (h : ∀ j, j ≤ k → RhoAll Tryz.prog tyE tyB W0 (G34.rho j)) : PureOk Tryz.prog tyE W0 34 (G34.G (k + 1)) := G34.tower.pure tyOk Tryz.func34 G34.body G34.name h (argG_ok (G34.tF k))
theorem G34.all {W0 : World} (hW : WOk W0) (j : Nat) : RhoAll Tryz.prog tyE tyB W0 (G34.rho j) := ((G62.ok hW j).all ((G60.ok hW j).all rnil_all))
theorem G34.ok {W0 : World} (hW : WOk W0) : ∀ k, PureOk Tryz.prog tyE W0 34 (G34.G k)
  | 0 => G34.zero
  | k + 1 => G34.step k fun j _ => G34.all hW j
def G13.J4 {R : Type} (k : Nat) (x1 : Int) (x2 : Int) (x3 : Int) (x4 : List UInt8) (x5 : List UInt8) (x6 : Int) (x7 : Int) (x8 : Int) (x9 : List PV) (x10 : List UInt8) (x11 : List UInt8) (Kr : (Int → Int → Int → Int → List PV → List UInt8 → List UInt8 → Option R)) : Option R := G34.F k x9 (fun r12 r13 => bif !eqI r13 0 then Kr r13 0 0 0 [] [] [] else Kr 0 x6 x7 x8 x9 x10 x11)
def G13.F {R : Type} : Nat → List UInt8 → (Int → Int → Int → List PV → List UInt8 → List UInt8 → Int → Option R) → Option R
  | 0, _, _ => none
  | k + 1, a1, K => G31.F k a1 (fun r2 r3 r4 r5 r6 r7 => G32.F k (PV.agg [PV.int .u8 r2, PV.int .i64 r3, PV.int .i64 r4, PV.sl 5 r5, PV.str r6, PV.str r7]) (fun r8 => bif !r8 then K 0 0 0 [] [] [] 2 else G33.F k (PV.agg [PV.int .u8 r2, PV.int .i64 r3, PV.int .i64 r4, PV.sl 5 r5, PV.str r6, PV.str r7]) (fun r9 => bif !eqS r9 a1 then K 0 0 0 [] [] [] 2 else G13.J4 k 0 0 0 [] [] r2 r3 r4 r5 r6 r7 (fun y10 y11 y12 y13 y14 y15 y16 => K y11 y12 y13 y14 y15 y16 y10))))
def G13.ks : List AK := [.str]
def G13.A (k : Nat) : List PV → Cps GV := fun vs R K => G13.F k (strOf (vs.getD 0 .any)) (fun r1 r2 r3 r4 r5 r6 r7 => K (GV.tup [CV.p (PV.agg [PV.int .u8 r1, PV.int .i64 r2, PV.int .i64 r3, PV.sl 5 r4, PV.str r5, PV.str r6]), CV.p (PV.int .i64 r7)]))
def G13.G (k : Nat) : PureG := argG G13.ks (G13.A k)
def G13.c : Code := Tryz.f13.body.getD .skip
def G13.rho (k : Nat) : RhoF := (rp 31 (G31.G k) (rp 32 (G32.G k) (rp 33 (G33.G k) (rp 34 (G34.G k) rnil))))
def G13.sJ4 : Shape := ⟨[(2, .fix (CV.ptr 2 0)), (4, .fix (CV.ptr 4 0))], [(2, (.box [.int .u8, .int .i64, .int .i64, .fix (CV.nils 5), .str, .str])), (4, (.box [.int .u8, .int .i64, .int .i64, .sl 5, .str, .str]))], []⟩
def G13.xJ4_r : Shape := ⟨[(2, .fix (CV.ptr 2 0)), (3, .int .i64)], [(2, (.box [.int .u8, .int .i64, .int .i64, .sl 5, .str, .str]))], []⟩
def G13.mJ4 : Exit → St → St := maskOf tyE [] G13.xJ4_r noSh
def G13.eJ4 : CutE := ⟨4, G13.sJ4, G13.mJ4, fun k vs R K => G13.J4 k (intOf (vs.getD 2 .any)) (intOf (vs.getD 3 .any)) (intOf (vs.getD 4 .any)) (strOf (vs.getD 6 .any)) (strOf (vs.getD 7 .any)) (intOf (vs.getD 8 .any)) (intOf (vs.getD 9 .any)) (intOf (vs.getD 10 .any)) (slOf (vs.getD 11 .any)) (strOf (vs.getD 12 .any)) (strOf (vs.getD 13 .any)) (fun y1 y2 y3 y4 y5 y6 y7 => K (.ret) (G13.xJ4_r.build [.any, PV.int .i64 y1, PV.int .u8 y2, PV.int .i64 y3, PV.int .i64 y4, PV.sl 5 y5, PV.str y6, PV.str y7]))⟩
def G13.ls : List LoopE := []
def G13.cs : List CutE := [G13.eJ4]
theorem G13.tJ4 (k : Nat) (vs : List PV) (R : Type) (K : Exit → St → Option R) : G13.eJ4.J k vs R K = exec tyE Tryz.f13.ntmps (G13.rho k R) (lam tyE k G13.cs G13.ls R) (secondAt G13.c 4) (G13.sJ4.build vs) (fun x st => K x (G13.mJ4 x st)) := by kernel_rfl
theorem G13.tower : Tower tyE Tryz.f13.ntmps G13.c G13.rho G13.ls G13.cs := tower_of AllL.nil (AllL.cons ⟨by kernel_rfl, maskOf_weak tyE [] G13.xJ4_r noSh, G13.tJ4⟩ AllL.nil)
theorem G13.body : Tryz.f13.body = some G13.c := by kernel_rfl
theorem G13.name : (Tryz.f13.name == "runtime.NumGoroutine") = false := by kernel_rfl
theorem G13.tF (k : Nat) (vs : List PV) (R : Type) (K : GV → Option R) : G13.A (k + 1) vs R K = execPure tyE (G13.rho k R) (lam tyE k G13.cs G13.ls R) Tryz.f13 (canonArgs G13.ks 0 vs) K := by kernel_rfl
theorem G13.zero {W0 : World} : PureOk Tryz.prog tyE W0 13 (G13.G 0) := pureOk_none (enters_of Tryz.func13 G13.name (by rw [G13.body]; rfl)) (argG_none fun _ _ _ => by kernel_rfl)
theorem G13.step {W0 : World} (k : Nat) (h : ∀ j, j ≤ k → RhoAll Tryz.prog tyE tyB W0 (G13.rho j)) : PureOk Tryz.prog tyE W0 13 (G13.G (k + 1)) := G13.tower.pure tyOk Tryz.func13 G13.body G13.name h (argG_ok (G13.tF k))
theorem G13.all {W0 : World} (hW : WOk W0) (j : Nat) : RhoAll Tryz.prog tyE tyB W0 (G13.rho j) := ((G31.ok hW j).all ((G32.ok hW j).all ((G33.ok hW j).all ((G34.ok hW j).all rnil_all))))
theorem G13.ok {W0 : World} (hW : WOk W0) : ∀ k, PureOk Tryz.prog tyE W0 13 (G13.G k)
  | 0 => G13.zero
  | k + 1 => G13.step k fun j _ => G13.all hW j
def G35.J13 {R : Type} (k : Nat) (x1 : List UInt8) (x2 : Bool) (x3 : Bool) (x4 : Int) (x5 : Bool) (Kr : (List UInt8 → List UInt8 → Bool → Option R)) (Kn : (List UInt8 → Bool → Bool → Int → Option R)) : Option R := bif x5 then bif inR 0 x4 ((x1.length : Nat) : Int) then bif inR (IntKind.i64.wrap (x4 + 1)) ((x1.length : Nat) : Int) ((x1.length : Nat) : Int) then Kr (sub x1 0 x4) (sub x1 (IntKind.i64.wrap (x4 + 1)) ((x1.length : Nat) : Int)) true else none else none else Kn x1 x2 x3 x4
def G35.L3 {R : Type} : Nat → List UInt8 → Bool → Bool → Int → Option R → (List UInt8 → List UInt8 → Bool → Option R) → Option R
  | 0, _, _, _, _, _, _ => none
  | k + 1, x1, x2, x3, x4, K0, Kr => bif ltI x4 ((x1.length : Nat) : Int) then bif inI x4 ((x1.length : Nat) : Int) then bif x3 then G35.L3 k x1 x2 false (IntKind.i64.wrap (x4 + 1)) K0 Kr else bif eqI ((x1.getD (Int.toNat x4) 0).toNat : Int) 92 then G35.L3 k x1 x2 x2 (IntKind.i64.wrap (x4 + 1)) K0 Kr else bif eqI ((x1.getD (Int.toNat x4) 0).toNat : Int) 34 then G35.L3 k x1 (!x2) x3 (IntKind.i64.wrap (x4 + 1)) K0 Kr else bif eqI ((x1.getD (Int.toNat x4) 0).toNat : Int) 10 then G35.J13 k x1 x2 x3 x4 (!x2) (fun y5 y6 y7 => Kr y5 y6 y7) (fun y8 y9 y10 y11 => G35.L3 k y8 y9 y10 (IntKind.i64.wrap (y11 + 1)) K0 Kr) else G35.J13 k x1 x2 x3 x4 false (fun y12 y13 y14 => Kr y12 y13 y14) (fun y15 y16 y17 y18 => G35.L3 k y15 y16 y17 (IntKind.i64.wrap (y18 + 1)) K0 Kr) else none else K0
def G35.F {R : Type} : Nat → List UInt8 → (List UInt8 → List UInt8 → Bool → Option R) → Option R
  | 0, _, _ => none
  | k + 1, a1, K => G35.L3 k a1 false false 0 ( K ([] : Bytes) ([] : Bytes) false) (fun y2 y3 y4 => K y2 y3 y4)
def G35.ks : List AK := [.str]
def G35.A (k : Nat) : List PV → Cps GV := fun vs R K => G35.F k (strOf (vs.getD 0 .any)) (fun r1 r2 r3 => K (GV.tup [CV.p (PV.str r1), CV.p (PV.str r2), CV.p (PV.bool r3)]))
def G35.G (k : Nat) : PureG := argG G35.ks (G35.A k)
def G35.c : Code := Tryz.f35.body.getD .skip
def G35.rho (k : Nat) : RhoF := rnil
def G35.sL3 : Shape := ⟨[(0, .str), (5, .bool), (6, .bool), (7, .int .i64)], [], []⟩
def G35.xL3_0 : Shape := ⟨[], [], []⟩
def G35.xL3_r : Shape := ⟨[(2, .str), (3, .str), (4, .bool)], [], []⟩
def G35.mL3 : Exit → St → St := maskOf tyE [(0, G35.xL3_0)] G35.xL3_r noSh
def G35.eL3 : LoopE := ⟨3, G35.sL3, G35.mL3, fun k vs R K => G35.L3 k (strOf (vs.getD 0 .any)) (boolOf (vs.getD 1 .any)) (boolOf (vs.getD 2 .any)) (intOf (vs.getD 3 .any)) (K (.exit 0) (G35.xL3_0.build [])) (fun y0 y1 y2 => K (.ret) (G35.xL3_r.build [PV.str y0, PV.str y1, PV.bool y2]))⟩
def G35.sJ13 : Shape := ⟨[(0, .str), (5, .bool), (6, .bool), (7, .int .i64), (29, .bool)], [], []⟩
def G35.xJ13_r : Shape := ⟨[(2, .str), (3, .str), (4, .bool)], [], []⟩
def G35.xJ13_n : Shape := ⟨[(0, .str), (5, .bool), (6, .bool), (7, .int .i64)], [], []⟩
def G35.mJ13 : Exit → St → St := maskOf tyE [] G35.xJ13_r G35.xJ13_n
def G35.eJ13 : CutE := ⟨13, G35.sJ13, G35.mJ13, fun k vs R K => G35.J13 k (strOf (vs.getD 0 .any)) (boolOf (vs.getD 1 .any)) (boolOf (vs.getD 2 .any)) (intOf (vs.getD 3 .any)) (boolOf (vs.getD 4 .any)) (fun y0 y1 y2 => K (.ret) (G35.xJ13_r.build [PV.str y0, PV.str y1, PV.bool y2])) (fun y0 y1 y2 y3 => K (.normal) (G35.xJ13_n.build [PV.str y0, PV.bool y1, PV.bool y2, PV.int .i64 y3]))⟩
def G35.ls : List LoopE := [G35.eL3]
def G35.cs : List CutE := [G35.eJ13]
theorem G35.tL3 (k : Nat) (vs : List PV) (R : Type) (K : Exit → St → Option R) : G35.eL3.L (k + 1) vs R K = exec tyE Tryz.f35.ntmps (G35.rho k R) (lam tyE k G35.cs G35.ls R) (loopAt G35.c 3) (G35.sL3.build vs) (loopK tyE G35.eL3 k K) := by kernel_rfl
theorem G35.tJ13 (k : Nat) (vs : List PV) (R : Type) (K : Exit → St → Option R) : G35.eJ13.J k vs R K = exec tyE Tryz.f35.ntmps (G35.rho k R) (lam tyE k G35.cs G35.ls R) (secondAt G35.c 13) (G35.sJ13.build vs) (fun x st => K x (G35.mJ13 x st)) := by kernel_rfl
theorem G35.tower : Tower tyE Tryz.f35.ntmps G35.c G35.rho G35.ls G35.cs := tower_of (AllL.cons ⟨by kernel_rfl, fun _ _ _ => by kernel_rfl, maskOf_weak tyE [(0, G35.xL3_0)] G35.xL3_r noSh, G35.tL3⟩ AllL.nil) (AllL.cons ⟨by kernel_rfl, maskOf_weak tyE [] G35.xJ13_r G35.xJ13_n, G35.tJ13⟩ AllL.nil)
theorem G35.body : Tryz.f35.body = some G35.c := by kernel_rfl
theorem G35.name : (Tryz.f35.name == "runtime.NumGoroutine") = false := by kernel_rfl
theorem G35.tF (k : Nat) (vs : List PV) (R : Type) (K : GV → Option R) : G35.A (k + 1) vs R K = execPure tyE (G35.rho k R) (lam tyE k G35.cs G35.ls R) Tryz.f35 (canonArgs G35.ks 0 vs) K := by kernel_rfl
theorem G35.zero {W0 : World} : PureOk Tryz.prog tyE W0 35 (G35.G 0) := pureOk_none (enters_of Tryz.func35 G35.name (by rw [G35.body]; rfl)) (argG_none fun _ _ _ => by kernel_rfl)
theorem G35.step {W0 : World} (k : Nat) (h : ∀ j, j ≤ k → RhoAll Tryz.prog tyE tyB W0 (G35.rho j)) : PureOk Tryz.prog tyE W0 35 (G35.G (k + 1)) := G35.tower.pure tyOk Tryz.func35 G35.body G35.name h (argG_ok (G35.tF k))
theorem G35.all {W0 : World} (hW : WOk W0) (j : Nat) : RhoAll Tryz.prog tyE tyB W0 (G35.rho j) := rnil_all
theorem G35.ok {W0 : World} (hW : WOk W0) : ∀ k, PureOk Tryz.prog tyE W0 35 (G35.G k)
  | 0 => G35.zero
  | k + 1 => G35.step k fun j _ => G35.all hW j
def G14.J7 {R : Type} (k : Nat) (x1 : List UInt8) (x2 : List PV) (x3 : Int) (x4 : Int) (x5 : Int) (x6 : List PV) (x7 : List UInt8) (x8 : List UInt8) (Kn : (List UInt8 → List PV → Option R)) : Option R := bif leN (x2.length + 1) LIM then Kn x1 (x2 ++ [PV.agg [PV.int .u8 x3, PV.int .i64 x4, PV.int .i64 x5, PV.sl 5 x6, PV.str x7, PV.str x8]]) else none
def G14.L2 {R : Type} : Nat → List UInt8 → List PV → (List PV → Option R) → (Int → List PV → Option R) → Option R
  | 0, _, _, _, _ => none
  | k + 1, x1, x2, K0, Kr => bif !eqS x1 ([] : Bytes) then G35.F k x1 (fun r3 r4 r5 => G10.F k r3 (fun r6 r7 r8 r9 r10 r11 r12 => bif !r5 then Kr 2 [] else bif !eqI r12 0 then Kr 2 [] else G14.J7 k r4 x2 r6 r7 r8 r9 r10 r11 (fun y13 y14 => G14.L2 k y13 y14 K0 Kr))) else K0 x2
def G14.F {R : Type} : Nat → List UInt8 → (List PV → Int → Option R) → Option R
  | 0, _, _ => none
  | k + 1, a1, K => G14.L2 k a1 [] (fun y2 => K y2 0) (fun y3 y4 => K y4 y3)
def G14.ks : List AK := [.str]
def G14.A (k : Nat) : List PV → Cps GV := fun vs R K => G14.F k (strOf (vs.getD 0 .any)) (fun r1 r2 => K (GV.tup [CV.p (PV.sl 6 r1), CV.p (PV.int .i64 r2)]))
def G14.G (k : Nat) : PureG := argG G14.ks (G14.A k)
def G14.c : Code := Tryz.f14.body.getD .skip
def G14.rho (k : Nat) : RhoF := (rp 35 (G35.G k) (rp 10 (G10.G k) rnil))
def G14.sL2 : Shape := ⟨[(0, .str), (4, .fix (CV.orow 4))], [(4, (.row 24))], []⟩
def G14.xL2_0 : Shape := ⟨[(4, .fix (CV.orow 4))], [(4, (.row 24))], []⟩
def G14.xL2_r : Shape := ⟨[(2, .fix (CV.orow 2)), (3, .int .i64)], [(2, (.row 24))], []⟩
def G14.mL2 : Exit → St → St := maskOf tyE [(0, G14.xL2_0)] G14.xL2_r noSh
def G14.eL2 : LoopE := ⟨2, G14.sL2, G14.mL2, fun k vs R K => G14.L2 k (strOf (vs.getD 0 .any)) (slOf (vs.getD 2 .any)) (fun y1 => K (.exit 0) (G14.xL2_0.build [.any, PV.sl 0 y1])) (fun y1 y2 => K (.ret) (G14.xL2_r.build [.any, PV.int .i64 y1, PV.sl 0 y2]))⟩
def G14.sJ7 : Shape := ⟨[(4, .fix (CV.orow 4)), (6, .str), (8, .fix (CV.ptr 8 0))], [(4, (.row 24)), (8, (.box [.int .u8, .int .i64, .int .i64, .sl 5, .str, .str]))], []⟩
def G14.xJ7_n : Shape := ⟨[(0, .str), (4, .fix (CV.orow 4))], [(4, (.row 24))], []⟩
def G14.mJ7 : Exit → St → St := maskOf tyE [] noSh G14.xJ7_n
def G14.eJ7 : CutE := ⟨7, G14.sJ7, G14.mJ7, fun k vs R K => G14.J7 k (strOf (vs.getD 1 .any)) (slOf (vs.getD 3 .any)) (intOf (vs.getD 4 .any)) (intOf (vs.getD 5 .any)) (intOf (vs.getD 6 .any)) (slOf (vs.getD 7 .any)) (strOf (vs.getD 8 .any)) (strOf (vs.getD 9 .any)) (fun y0 y2 => K (.normal) (G14.xJ7_n.build [PV.str y0, .any, PV.sl 0 y2]))⟩
def G14.ls : List LoopE := [G14.eL2]
def G14.cs : List CutE := [G14.eJ7]
theorem G14.tL2 (k : Nat) (vs : List PV) (R : Type) (K : Exit → St → Option R) : G14.eL2.L (k + 1) vs R K = exec tyE Tryz.f14.ntmps (G14.rho k R) (lam tyE k G14.cs G14.ls R) (loopAt G14.c 2) (G14.sL2.build vs) (loopK tyE G14.eL2 k K) := by kernel_rfl
theorem G14.tJ7 (k : Nat) (vs : List PV) (R : Type) (K : Exit → St → Option R) : G14.eJ7.J k vs R K = exec tyE Tryz.f14.ntmps (G14.rho k R) (lam tyE k G14.cs G14.ls R) (secondAt G14.c 7) (G14.sJ7.build vs) (fun x st => K x (G14.mJ7 x st)) := by kernel_rfl
theorem G14.tower : Tower tyE Tryz.f14.ntmps G14.c G14.rho G14.ls G14.cs := tower_of (AllL.cons ⟨by kernel_rfl, fun _ _ _ => by kernel_rfl, maskOf_weak tyE [(0, G14.xL2_0)] G14.xL2_r noSh, G14.tL2⟩ AllL.nil) (AllL.cons ⟨by kernel_rfl, maskOf_weak tyE [] noSh G14.xJ7_n, G14.tJ7⟩ AllL.nil)
theorem G14.body : Tryz.f14.body = some G14.c := by kernel_rfl
theorem G14.name : (Tryz.f14.name == "runtime.NumGoroutine") = false := by kernel_rfl
theorem G14.tF (k : Nat) (vs : List PV) (R : Type) (K : GV → Option R) : G14.A (k + 1) vs R K = execPure tyE (G14.rho k R) (lam tyE k G14.cs G14.ls R) Tryz.f14 (canonArgs G14.ks 0 vs) K := by kernel_rfl
theorem G14.zero {W0 : World} : PureOk Tryz.prog tyE W0 14 (G14.G 0) := pureOk_none (enters_of Tryz.func14 G14.name (by rw [G14.body]; rfl)) (argG_none fun _ _ _ => by kernel_rfl)
theorem G14.step {W0 : World} (k : Nat) (h : ∀ j, j ≤ k → RhoAll Tryz.prog tyE tyB W0 (G14.rho j)) : PureOk Tryz.prog tyE W0 14 (G14.G (k + 1)) := G14.tower.pure tyOk Tryz.func14 G14.body G14.name h (argG_ok (G14.tF k))
theorem G14.all {W0 : World} (hW : WOk W0) (j : Nat) : RhoAll Tryz.prog tyE tyB W0 (G14.rho j) := ((G35.ok hW j).all ((G10.ok hW j).all rnil_all))
theorem G14.ok {W0 : World} (hW : WOk W0) : ∀ k, PureOk Tryz.prog tyE W0 14 (G14.G k)
  | 0 => G14.zero
  | k + 1 => G14.step k fun j _ => G14.all hW j
def G15.J12 {R : Type} (k : Nat) (x1 : List UInt8) (x2 : Int) (x3 : Bool) (x4 : Int) (x5 : List PV) (Kr : (Int → List PV → Option R)) (Kn : (List UInt8 → Int → Bool → Int → List PV → Option R)) : Option R := bif inR x2 x4 ((x1.length : Nat) : Int) then G13.F k (sub x1 x2 x4) (fun r6 r7 r8 r9 r10 r11 r12 => bif !eqI r12 0 then Kr 2 [] else bif leN (x5.length + 1) LIM then Kn x1 (IntKind.i64.wrap (x4 + 1)) x3 x4 (x5 ++ [PV.agg [PV.int .u8 r6, PV.int .i64 r7, PV.int .i64 r8, PV.sl 5 r9, PV.str r10, PV.str r11]]) else none) else none
def G15.J11 {R : Type} (k : Nat) (x1 : List UInt8) (x2 : Int) (x3 : Bool) (x4 : Int) (x5 : List PV) (K1 : (List UInt8 → Int → Bool → Int → List PV → Option R)) (Kr : (Int → List PV → Option R)) (Kn : (List UInt8 → Int → Bool → Int → List PV → Option R)) : Option R := bif inI x4 ((x1.length : Nat) : Int) then bif !eqI ((x1.getD (Int.toNat x4) 0).toNat : Int) 10 then K1 x1 x2 x3 x4 x5 else bif x3 then K1 x1 x2 x3 x4 x5 else G15.J12 k x1 x2 x3 x4 x5 (fun y6 y7 => Kr y6 y7) (fun y8 y9 y10 y11 y12 => Kn y8 y9 y10 y11 y12) else none
def G15.J9 {R : Type} (k : Nat) (x1 : List UInt8) (x2 : Int) (x3 : Bool) (x4 : Int) (x5 : List PV) (K1 : (List UInt8 → Int → Bool → Int → List PV → Option R)) (Kr : (Int → List PV → Option R)) (Kn : (List UInt8 → Int → Bool → Int → List PV → Option R)) : Option R := bif inI x4 ((x1.length : Nat) : Int) then bif eqI ((x1.getD (Int.toNat x4) 0).toNat : Int) 34 then G15.J11 k x1 x2 (!x3) x4 x5 (fun y6 y7 y8 y9 y10 => K1 y6 y7 y8 y9 y10) (fun y11 y12 => Kr y11 y12) (fun y13 y14 y15 y16 y17 => Kn y13 y14 y15 y16 y17) else G15.J11 k x1 x2 x3 x4 x5 (fun y18 y19 y20 y21 y22 => K1 y18 y19 y20 y21 y22) (fun y23 y24 => Kr y23 y24) (fun y25 y26 y27 y28 y29 => Kn y25 y26 y27 y28 y29) else none
def G15.L5 {R : Type} : Nat → List UInt8 → Int → Bool → Int → List PV → (List UInt8 → Int → List PV → Option R) → (Int → List PV → Option R) → Option R
  | 0, _, _, _, _, _, _, _ => none
  | k + 1, x1, x2, x3, x4, x5, K0, Kr => bif ltI x4 ((x1.length : Nat) : Int) then bif inI x4 ((x1.length : Nat) : Int) then bif eqI ((x1.getD (Int.toNat x4) 0).toNat : Int) 92 then bif x3 then G15.L5 k x1 x2 x3 (IntKind.i64.wrap ((IntKind.i64.wrap (x4 + 1)) + 1)) x5 K0 Kr else G15.J9 k x1 x2 x3 x4 x5 (fun y6 y7 y8 y9 y10 => G15.L5 k y6 y7 y8 (IntKind.i64.wrap (y9 + 1)) y10 K0 Kr) (fun y11 y12 => Kr y11 y12) (fun y13 y14 y15 y16 y17 => G15.L5 k y13 y14 y15 (IntKind.i64.wrap (y16 + 1)) y17 K0 Kr) else G15.J9 k x1 x2 x3 x4 x5 (fun y18 y19 y20 y21 y22 => G15.L5 k y18 y19 y20 (IntKind.i64.wrap (y21 + 1)) y22 K0 Kr) (fun y23 y24 => Kr y23 y24) (fun y25 y26 y27 y28 y29 => G15.L5 k y25 y26 y27 (IntKind.i64.wrap (y28 + 1)) y29 K0 Kr) else none else K0 x1 x2 x5
def G15.F {R : Type} : Nat → List UInt8 → (List PV → Int → Option R) → Option R
  | 0, _, _ => none
  | k + 1, a1, K => G15.L5 k a1 0 false 0 [] (fun y2 y3 y4 => bif !eqI y3 ((y2.length : Nat) : Int) then K [] 2 else K y4 0) (fun y5 y6 => K y6 y5)
def G15.ks : List AK := [.str]
def G15.A (k : Nat) : List PV → Cps GV := fun vs R K => G15.F k (strOf (vs.getD 0 .any)) (fun r1 r2 => K (GV.tup [CV.p (PV.sl 6 r1), CV.p (PV.int .i64 r2)]))
def G15.G (k : Nat) : PureG := argG G15.ks (G15.A k)
def G15.c : Code := Tryz.f15.body.getD .skip
def G15.rho (k : Nat) : RhoF := (rp 13 (G13.G k) rnil)
def G15.sL5 : Shape := ⟨[(0, .str), (4, .fix (CV.orow 4)), (5, .int .i64), (6, .bool), (7, .int .i64)], [(4, (.row 34))], []⟩
def G15.xL5_0 : Shape := ⟨[(0, .str), (4, .fix (CV.orow 4)), (5, .int .i64)], [(4, (.row 34))], []⟩
def G15.xL5_r : Shape := ⟨[(2, .fix (CV.orow 2)), (3, .int .i64)], [(2, (.row 34))], []⟩
def G15.mL5 : Exit → St → St := maskOf tyE [(0, G15.xL5_0)] G15.xL5_r noSh
def G15.eL5 : LoopE := ⟨5, G15.sL5, G15.mL5, fun k vs R K => G15.L5 k (strOf (vs.getD 0 .any)) (intOf (vs.getD 2 .any)) (boolOf (vs.getD 3 .any)) (intOf (vs.getD 4 .any)) (slOf (vs.getD 5 .any)) (fun y0 y2 y3 => K (.exit 0) (G15.xL5_0.build [PV.str y0, .any, PV.int .i64 y2, PV.sl 0 y3])) (fun y1 y2 => K (.ret) (G15.xL5_r.build [.any, PV.int .i64 y1, PV.sl 0 y2]))⟩
def G15.sJ9 : Shape := ⟨[(0, .str), (4, .fix (CV.orow 4)), (5, .int .i64), (6, .bool), (7, .int .i64)], [(4, (.row 34))], []⟩
def G15.xJ9_1 : Shape := ⟨[(0, .str), (4, .fix (CV.orow 4)), (5, .int .i64), (6, .bool), (7, .int .i64)], [(4, (.row 34))], []⟩
def G15.xJ9_r : Shape := ⟨[(2, .fix (CV.orow 2)), (3, .int .i64)], [(2, (.row 34))], []⟩
def G15.xJ9_n : Shape := ⟨[(0, .str), (4, .fix (CV.orow 4)), (5, .int .i64), (6, .bool), (7, .int .i64)], [(4, (.row 34))], []⟩
def G15.mJ9 : Exit → St → St := maskOf tyE [(1, G15.xJ9_1)] G15.xJ9_r G15.xJ9_n
def G15.eJ9 : CutE := ⟨9, G15.sJ9, G15.mJ9, fun k vs R K => G15.J9 k (strOf (vs.getD 0 .any)) (intOf (vs.getD 2 .any)) (boolOf (vs.getD 3 .any)) (intOf (vs.getD 4 .any)) (slOf (vs.getD 5 .any)) (fun y0 y2 y3 y4 y5 => K (.exit 1) (G15.xJ9_1.build [PV.str y0, .any, PV.int .i64 y2, PV.bool y3, PV.int .i64 y4, PV.sl 0 y5])) (fun y1 y2 => K (.ret) (G15.xJ9_r.build [.any, PV.int .i64 y1, PV.sl 0 y2])) (fun y0 y2 y3 y4 y5 => K (.normal) (G15.xJ9_n.build [PV.str y0, .any, PV.int .i64 y2, PV.bool y3, PV.int .i64 y4, PV.sl 0 y5]))⟩
def G15.sJ11 : Shape := ⟨[(0, .str), (4, .fix (CV.orow 4)), (5, .int .i64), (6, .bool), (7, .int .i64)], [(4, (.row 34))], []⟩
def G15.xJ11_1 : Shape := ⟨[(0, .str), (4, .fix (CV.orow 4)), (5, .int .i64), (6, .bool), (7, .int .i64)], [(4, (.row 34))], []⟩
def G15.xJ11_r : Shape := ⟨[(2, .fix (CV.orow 2)), (3, .int .i64)], [(2, (.row 34))], []⟩
def G15.xJ11_n : Shape := ⟨[(0, .str), (4, .fix (CV.orow 4)), (5, .int .i64), (6, .bool), (7, .int .i64)], [(4, (.row 34))], []⟩
def G15.mJ11 : Exit → St → St := maskOf tyE [(1, G15.xJ11_1)] G15.xJ11_r G15.xJ11_n
def G15.eJ11 : CutE := ⟨11, G15.sJ11, G15.mJ11, fun k vs R K => G15.J11 k (strOf (vs.getD 0 .any)) (intOf (vs.getD 2 .any)) (boolOf (vs.getD 3 .any)) (intOf (vs.getD 4 .any)) (slOf (vs.getD 5 .any)) (fun y0 y2 y3 y4 y5 => K (.exit 1) (G15.xJ11_1.build [PV.str y0, .any, PV.int .i64 y2, PV.bool y3, PV.int .i64 y4, PV.sl 0 y5])) (fun y1 y2 => K (.ret) (G15.xJ11_r.build [.any, PV.int .i64 y1, PV.sl 0 y2])) (fun y0 y2 y3 y4 y5 => K (.normal) (G15.xJ11_n.build [PV.str y0, .any, PV.int .i64 y2, PV.bool y3, PV.int .i64 y4, PV.sl 0 y5]))⟩
def G15.sJ12 : Shape := ⟨[(0, .str), (4, .fix (CV.orow 4)), (5, .int .i64), (6, .bool), (7, .int .i64)], [(4, (.row 34))], []⟩
def G15.xJ12_r : Shape := ⟨[(2, .fix (CV.orow 2)), (3, .int .i64)], [(2, (.row 34))], []⟩
def G15.xJ12_n : Shape := ⟨[(0, .str), (4, .fix (CV.orow 4)), (5, .int .i64), (6, .bool), (7, .int .i64)], [(4, (.row 34))], []⟩
def G15.mJ12 : Exit → St → St := maskOf tyE [] G15.xJ12_r G15.xJ12_n
def G15.eJ12 : CutE := ⟨12, G15.sJ12, G15.mJ12, fun k vs R K => G15.J12 k (strOf (vs.getD 0 .any)) (intOf (vs.getD 2 .any)) (boolOf (vs.getD 3 .any)) (intOf (vs.getD 4 .any)) (slOf (vs.getD 5 .any)) (fun y1 y2 => K (.ret) (G15.xJ12_r.build [.any, PV.int .i64 y1, PV.sl 0 y2])) (fun y0 y2 y3 y4 y5 => K (.normal) (G15.xJ12_n.build [PV.str y0, .any, PV.int .i64 y2, PV.bool y3, PV.int .i64 y4, PV.sl 0 y5]))⟩
def G15.ls : List LoopE := [G15.eL5]
def G15.cs : List CutE := [G15.eJ9, G15.eJ11, G15.eJ12]
theorem G15.tL5 (k : Nat) (vs : List PV) (R : Type) (K : Exit → St → Option R) : G15.eL5.L (k + 1) vs R K = exec tyE Tryz.f15.ntmps (G15.rho k R) (lam tyE k G15.cs G15.ls R) (loopAt G15.c 5) (G15.sL5.build vs) (loopK tyE G15.eL5 k K) := by kernel_rfl
theorem G15.tJ9 (k : Nat) (vs : List PV) (R : Type) (K : Exit → St → Option R) : G15.eJ9.J k vs R K = exec tyE Tryz.f15.ntmps (G15.rho k R) (lam tyE k G15.cs G15.ls R) (secondAt G15.c 9) (G15.sJ9.build vs) (fun x st => K x (G15.mJ9 x st)) := by kernel_rfl
theorem G15.tJ11 (k : Nat) (vs : List PV) (R : Type) (K : Exit → St → Option R) : G15.eJ11.J k vs R K = exec tyE Tryz.f15.ntmps (G15.rho k R) (lam tyE k G15.cs G15.ls R) (secondAt G15.c 11) (G15.sJ11.build vs) (fun x st => K x (G15.mJ11 x st)) := by kernel_rfl
theorem G15.tJ12 (k : Nat) (vs : List PV) (R : Type) (K : Exit → St → Option R) : G15.eJ12.J k vs R K = exec tyE Tryz.f15.ntmps (G15.rho k R) (lam tyE k G15.cs G15.ls R) (secondAt G15.c 12) (G15.sJ12.build vs) (fun x st => K x (G15.mJ12 x st)) := by kernel_rfl
theorem G15.tower : Tower tyE Tryz.f15.ntmps G15.c G15.rho G15.ls G15.cs := tower_of (AllL.cons ⟨by kernel_rfl, fun _ _ _ => by kernel_rfl, maskOf_weak tyE [(0, G15.xL5_0)] G15.xL5_r noSh, G15.tL5⟩ AllL.nil) (AllL.cons ⟨by kernel_rfl, maskOf_weak tyE [(1, G15.xJ9_1)] G15.xJ9_r G15.xJ9_n, G15.tJ9⟩ (AllL.cons ⟨by kernel_rfl, maskOf_weak tyE [(1, G15.xJ11_1)] G15.xJ11_r G15.xJ11_n, G15.tJ11⟩ (AllL.cons ⟨by kernel_rfl, maskOf_weak tyE [] G15.xJ12_r G15.xJ12_n, G15.tJ12⟩ AllL.nil)))
theorem G15.body : Tryz.f15.body = some G15.c := by kernel_rfl
theorem G15.name : (Tryz.f15.name == "runtime.NumGoroutine") = false := by kernel_rfl
theorem G15.tF (k : Nat) (vs : List PV) (R : Type) (K : GV → Option R) : G15.A (k + 1) vs R K = execPure tyE (G15.rho k R) (lam tyE k G15.cs G15.ls R) Tryz.f15 (canonArgs G15.ks 0 vs) K := by kernel_rfl
theorem G15.zero {W0 : World} : PureOk Tryz.prog tyE W0 15 (G15.G 0) := pureOk_none (enters_of Tryz.func15 G15.name (by rw [G15.body]; rfl)) (argG_none fun _ _ _ => by kernel_rfl)
theorem G15.step {W0 : World} (k : Nat) (h : ∀ j, j ≤ k → RhoAll Tryz.prog tyE tyB W0 (G15.rho j)) : PureOk Tryz.prog tyE W0 15 (G15.G (k + 1)) := G15.tower.pure tyOk Tryz.func15 G15.body G15.name h (argG_ok (G15.tF k))
theorem G15.all {W0 : World} (hW : WOk W0) (j : Nat) : RhoAll Tryz.prog tyE tyB W0 (G15.rho j) := ((G13.ok hW j).all rnil_all)
theorem G15.ok {W0 : World} (hW : WOk W0) : ∀ k, PureOk Tryz.prog tyE W0 15 (G15.G k)
  | 0 => G15.zero
  | k + 1 => G15.step k fun j _ => G15.all hW j
def G16.L4 {R : Type} : Nat → List PV → List PV → Int → Option R → (Bool → Option R) → Option R
  | 0, _, _, _, _, _ => none
  | k + 1, x1, x2, x3, K0, Kr => bif ltI x3 ((x1.length : Nat) : Int) then bif inI x3 ((x1.length : Nat) : Int) then bif inI x3 ((x2.length : Nat) : Int) then G11.F k (PV.agg [pcell (pat x1 x3) 0, pcell (pat x1 x3) 1, pcell (pat x1 x3) 2, pcell (pat x1 x3) 3, pcell (pat x1 x3) 4, pcell (pat x1 x3) 5]) (PV.agg [pcell (pat x2 x3) 0, pcell (pat x2 x3) 1, pcell (pat x2 x3) 2, pcell (pat x2 x3) 3, pcell (pat x2 x3) 4, pcell (pat x2 x3) 5]) (fun r4 => bif !r4 then Kr false else G16.L4 k x1 x2 (IntKind.i64.wrap (x3 + 1)) K0 Kr) else none else none else K0
def G16.F {R : Type} : Nat → List PV → List PV → (Bool → Option R) → Option R
  | 0, _, _, _ => none
  | k + 1, a1, a2, K => bif !eqI ((a1.length : Nat) : Int) ((a2.length : Nat) : Int) then K false else G16.L4 k a1 a2 0 ( K true) (fun y3 => K y3)
def G16.ks : List AK := [.sl 6, .sl 6]
def G16.A (k : Nat) : List PV → Cps GV := fun vs R K => G16.F k (slOf (vs.getD 0 .any)) (slOf (vs.getD 1 .any)) (fun r1 => K (GV.pv (PV.bool r1)))
def G16.G (k : Nat) : PureG := argG G16.ks (G16.A k)
def G16.c : Code := Tryz.f16.body.getD .skip
def G16.rho (k : Nat) : RhoF := (rp 11 (G11.G k) rnil)
def G16.sL4 : Shape := ⟨[(0, .sl 6), (1, .sl 6), (5, .int .i64)], [], []⟩
def G16.xL4_0 : Shape := ⟨[], [], []⟩
def G16.xL4_r : Shape := ⟨[(4, .bool)], [], []⟩
def G16.mL4 : Exit → St → St := maskOf tyE [(0, G16.xL4_0)] G16.xL4_r noSh
def G16.eL4 : LoopE := ⟨4, G16.sL4, G16.mL4, fun k vs R K => G16.L4 k (slOf (vs.getD 0 .any)) (slOf (vs.getD 1 .any)) (intOf (vs.getD 2 .any)) (K (.exit 0) (G16.xL4_0.build [])) (fun y0 => K (.ret) (G16.xL4_r.build [PV.bool y0]))⟩
def G16.ls : List LoopE := [G16.eL4]
def G16.cs : List CutE := []
theorem G16.tL4 (k : Nat) (vs : List PV) (R : Type) (K : Exit → St → Option R) : G16.eL4.L (k + 1) vs R K = exec tyE Tryz.f16.ntmps (G16.rho k R) (lam tyE k G16.cs G16.ls R) (loopAt G16.c 4) (G16.sL4.build vs) (loopK tyE G16.eL4 k K) := by kernel_rfl
theorem G16.tower : Tower tyE Tryz.f16.ntmps G16.c G16.rho G16.ls G16.cs := tower_of (AllL.cons ⟨by kernel_rfl, fun _ _ _ => by kernel_rfl, maskOf_weak tyE [(0, G16.xL4_0)] G16.xL4_r noSh, G16.tL4⟩ AllL.nil) AllL.nil
theorem G16.body : Tryz.f16.body = some G16.c := by kernel_rfl
theorem G16.name : (Tryz.f16.name == "runtime.NumGoroutine") = false := by kernel_rfl
theorem G16.tF (k : Nat) (vs : List PV) (R : Type) (K : GV → Option R) : G16.A (k + 1) vs R K = execPure tyE (G16.rho k R) (lam tyE k G16.cs G16.ls R) Tryz.f16 (canonArgs G16.ks 0 vs) K := by kernel_rfl
theorem G16.zero {W0 : World} : PureOk Tryz.prog tyE W0 16 (G16.G 0) := pureOk_none (enters_of Tryz.func16 G16.name (by rw [G16.body]; rfl)) (argG_none fun _ _ _ => by kernel_rfl)
theorem G16.step {W0 : World} (k : Nat) (h : ∀ j, j ≤ k → RhoAll Tryz.prog tyE tyB W0 (G16.rho j)) : PureOk Tryz.prog tyE W0 16 (G16.G (k + 1)) := G16.tower.pure tyOk Tryz.func16 G16.body G16.name h (argG_ok (G16.tF k))
theorem G16.all {W0 : World} (hW : WOk W0) (j : Nat) : RhoAll Tryz.prog tyE tyB W0 (G16.rho j) := ((G11.ok hW j).all rnil_all)
theorem G16.ok {W0 : World} (hW : WOk W0) : ∀ k, PureOk Tryz.prog tyE W0 16 (G16.G k)
  | 0 => G16.zero
  | k + 1 => G16.step k fun j _ => G16.all hW j
def G4.J4 {R : Type} (k : Nat) (x1 : List UInt8) (Kr : (Bool → Option R)) : Option R := G10.F k x1 (fun r2 r3 r4 r5 r6 r7 r8 => G13.F k x1 (fun r9 r10 r11 r12 r13 r14 r15 => G14.F k x1 (fun r16 r17 => G15.F k x1 (fun r18 r19 => G11.F k (PV.agg [PV.int .u8 r2, PV.int .i64 r3, PV.int .i64 r4, PV.sl 5 r5, PV.str r6, PV.str r7]) (PV.agg [PV.int .u8 r9, PV.int .i64 r10, PV.int .i64 r11, PV.sl 5 r12, PV.str r13, PV.str r14]) (fun r20 => bif r20 then bif eqI r8 r15 then G16.F k r16 r18 (fun r21 => bif r21 then Kr (eqI r17 r19) else Kr false) else Kr false else Kr false)))))
def G4.F {R : Type} : Nat → List UInt8 → (Bool → Option R) → Option R
  | 0, _, _ => none
  | k + 1, a1, K => G7.F k  (fun r2 => bif !r2 then K r2 else bif gtI ((a1.length : Nat) : Int) 1000 then K r2 else G4.J4 k a1 (fun y3 => K y3))
def G4.ks : List AK := [.str]
def G4.A (k : Nat) : List PV → Cps GV := fun vs R K => G4.F k (strOf (vs.getD 0 .any)) (fun r1 => K (GV.pv (PV.bool r1)))
def G4.G (k : Nat) : PureG := argG G4.ks (G4.A k)
def G4.c : Code := Tryz.f4.body.getD .skip
def G4.rho (k : Nat) : RhoF := (rp 7 (G7.G k) (rp 10 (G10.G k) (rp 13 (G13.G k) (rp 14 (G14.G k) (rp 15 (G15.G k) (rp 11 (G11.G k) (rp 16 (G16.G k) rnil)))))))
def G4.sJ4 : Shape := ⟨[(0, .str)], [], []⟩
def G4.xJ4_r : Shape := ⟨[(2, .bool)], [], []⟩
def G4.mJ4 : Exit → St → St := maskOf tyE [] G4.xJ4_r noSh
def G4.eJ4 : CutE := ⟨4, G4.sJ4, G4.mJ4, fun k vs R K => G4.J4 k (strOf (vs.getD 0 .any)) (fun y0 => K (.ret) (G4.xJ4_r.build [PV.bool y0]))⟩
def G4.ls : List LoopE := []
def G4.cs : List CutE := [G4.eJ4]
theorem G4.tJ4 (k : Nat) (vs : List PV) (R : Type) (K : Exit → St → Option R) : G4.eJ4.J k vs R K = exec tyE Tryz.f4.ntmps (G4.rho k R) (lam tyE k G4.cs G4.ls R) (secondAt G4.c 4) (G4.sJ4.build vs) (fun x st => K x (G4.mJ4 x st)) := by kernel_rfl
theorem G4.tower : Tower tyE Tryz.f4.ntmps G4.c G4.rho G4.ls G4.cs := tower_of AllL.nil (AllL.cons ⟨by kernel_rfl, maskOf_weak tyE [] G4.xJ4_r noSh, G4.tJ4⟩ AllL.nil)
theorem G4.body : Tryz.f4.body = some G4.c := by kernel_rfl
theorem G4.name : (Tryz.f4.name == "runtime.NumGoroutine") = false := by kernel_rfl
theorem G4.tF (k : Nat) (vs : List PV) (R : Type) (K : GV → Option R) : G4.A (k + 1) vs R K = execPure tyE (G4.rho k R) (lam tyE k G4.cs G4.ls R) Tryz.f4 (canonArgs G4.ks 0 vs) K := by kernel_rfl
theorem G4.zero {W0 : World} : PureOk Tryz.prog tyE W0 4 (G4.G 0) := pureOk_none (enters_of Tryz.func4 G4.name (by rw [G4.body]; rfl)) (argG_none fun _ _ _ => by kernel_rfl)
theorem G4.step {W0 : World} (k : Nat) (h : ∀ j, j ≤ k → RhoAll Tryz.prog tyE tyB W0 (G4.rho j)) : PureOk Tryz.prog tyE W0 4 (G4.G (k + 1)) := G4.tower.pure tyOk Tryz.func4 G4.body G4.name h (argG_ok (G4.tF k))
theorem G4.all {W0 : World} (hW : WOk W0) (j : Nat) : RhoAll Tryz.prog tyE tyB W0 (G4.rho j) := ((G7.ok hW j).all ((G10.ok hW j).all ((G13.ok hW j).all ((G14.ok hW j).all ((G15.ok hW j).all ((G11.ok hW j).all ((G16.ok hW j).all rnil_all)))))))
theorem G4.ok {W0 : World} (hW : WOk W0) : ∀ k, PureOk Tryz.prog tyE W0 4 (G4.G k)
  | 0 => G4.zero
  | k + 1 => G4.step k fun j _ => G4.all hW j
end
end Go.Dip
end
