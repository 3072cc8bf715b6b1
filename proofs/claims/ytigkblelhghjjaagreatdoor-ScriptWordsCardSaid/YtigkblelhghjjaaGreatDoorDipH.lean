/- Joined by program out of: Fun0, Run. -/
import Derived.Test.YtigkblelhghjjaaGreatDoorDipG
import Derived.KernelRfl
set_option linter.all false
/- Printed by program (emit.py): functions of the seat, plainly, and that they are what the evaluator says. -/
section
set_option linter.unusedVariables false
set_option maxRecDepth 100000
namespace Go.Dip
open Go.Proofs
noncomputable section
noncomputable def G5.L4 {R : Type} : Nat → List PV → List PV → Int → Option R → (Bool → Option R) → Option R
  | 0, _, _, _, _, _ => none
  | k + 1, x1, x2, x3, K0, Kr => bif ltI x3 ((x1.length : Nat) : Int) then bif inI x3 ((x1.length : Nat) : Int) then bif inI x3 ((x2.length : Nat) : Int) then bif isStr (pcell (pat x1 x3) 0) then bif isStr (pcell (pat x2 x3) 0) then bif !eqS (strOf (pcell (pat x1 x3) 0)) (strOf (pcell (pat x2 x3) 0)) then Kr false else G5.L4 k x1 x2 (IntKind.i64.wrap (x3 + 1)) K0 Kr else none else none else none else none else K0
noncomputable def G5.F {R : Type} : Nat → List PV → List PV → (Bool → Option R) → Option R
  | 0, _, _, _ => none
  | k + 1, a1, a2, K => bif !eqI ((a1.length : Nat) : Int) ((a2.length : Nat) : Int) then K false else G5.L4 k a1 a2 0 ( K true) (fun y3 => K y3)
noncomputable def G5.ks : List AK := [.sl 1, .sl 1]
noncomputable def G5.A (k : Nat) : List PV → Cps GV := fun vs R K => G5.F k (slOf (vs.getD 0 .any)) (slOf (vs.getD 1 .any)) (fun r1 => K (GV.pv (PV.bool r1)))
noncomputable def G5.G (k : Nat) : PureG := argG G5.ks (G5.A k)
noncomputable def G5.c : Code := Tryz.f5.body.getD .skip
noncomputable def G5.rho (k : Nat) : RhoF := rnil
noncomputable def G5.sL4 : Shape := ⟨[(0, .sl 1), (1, .sl 1), (5, .int .i64)], [], []⟩
noncomputable def G5.xL4_0 : Shape := ⟨[], [], []⟩
noncomputable def G5.xL4_r : Shape := ⟨[(4, .bool)], [], []⟩
noncomputable def G5.mL4 : Exit → St → St := maskOf tyE [(0, G5.xL4_0)] G5.xL4_r noSh
noncomputable def G5.eL4 : LoopE := ⟨4, G5.sL4, G5.mL4, fun k vs R K => G5.L4 k (slOf (vs.getD 0 .any)) (slOf (vs.getD 1 .any)) (intOf (vs.getD 2 .any)) (K (.exit 0) (G5.xL4_0.build [])) (fun y0 => K (.ret) (G5.xL4_r.build [PV.bool y0]))⟩
noncomputable def G5.ls : List LoopE := [G5.eL4]
noncomputable def G5.cs : List CutE := []
theorem G5.tL4 (k : Nat) (vs : List PV) (R : Type) (K : Exit → St → Option R) : G5.eL4.L (k + 1) vs R K = exec tyE Tryz.f5.ntmps (G5.rho k R) (lam tyE k G5.cs G5.ls R) (loopAt G5.c 4) (G5.sL4.build vs) (loopK tyE G5.eL4 k K) := by kernel_rfl
theorem G5.tower : Tower tyE Tryz.f5.ntmps G5.c G5.rho G5.ls G5.cs := tower_of (AllL.cons ⟨by kernel_rfl, fun _ _ _ => by kernel_rfl, maskOf_weak tyE [(0, G5.xL4_0)] G5.xL4_r noSh, G5.tL4⟩ AllL.nil) AllL.nil
theorem G5.body : Tryz.f5.body = some G5.c := by kernel_rfl
theorem G5.name : (Tryz.f5.name == "runtime.NumGoroutine") = false := by kernel_rfl
theorem G5.tF (k : Nat) (vs : List PV) (R : Type) (K : GV → Option R) : G5.A (k + 1) vs R K = execPure tyE (G5.rho k R) (lam tyE k G5.cs G5.ls R) Tryz.f5 (canonArgs G5.ks 0 vs) K := by kernel_rfl
theorem G5.zero {W0 : World} : PureOk Tryz.prog tyE W0 5 (G5.G 0) := pureOk_none (enters_of Tryz.func5 G5.name (by rw [G5.body]; rfl)) (argG_none fun _ _ _ => by kernel_rfl)
theorem G5.step {W0 : World} (k : Nat) (h : ∀ j, j ≤ k → RhoAll Tryz.prog tyE tyB W0 (G5.rho j)) : PureOk Tryz.prog tyE W0 5 (G5.G (k + 1)) := G5.tower.pure tyOk Tryz.func5 G5.body G5.name h (argG_ok (G5.tF k))
theorem G5.all {W0 : World} (hW : WOk W0) (j : Nat) : RhoAll Tryz.prog tyE tyB W0 (G5.rho j) := rnil_all
theorem G5.ok {W0 : World} (hW : WOk W0) : ∀ k, PureOk Tryz.prog tyE W0 5 (G5.G k)
  | 0 => G5.zero
  | k + 1 => G5.step k fun j _ => G5.all hW j
noncomputable def G7.J7 {R : Type} (k : Nat) (x1 : List UInt8) (x2 : List UInt8) (x3 : Int) (x4 : Bool) (x5 : List PV) (K1 : (List UInt8 → List UInt8 → Int → List PV → Option R)) (Kn : (List UInt8 → List UInt8 → Int → List PV → Option R)) : Option R := bif x4 then bif inR x3 (IntKind.i64.wrap (x3 + 1)) ((x1.length : Nat) : Int) then bif leN (x2.length + (sub x1 x3 (IntKind.i64.wrap (x3 + 1))).length) LIM then K1 x1 (x2 ++ (sub x1 x3 (IntKind.i64.wrap (x3 + 1)))) x3 x5 else none else none else Kn x1 x2 x3 x5
noncomputable def G7.J8 {R : Type} (k : Nat) (x1 : List UInt8) (x2 : List UInt8) (x3 : Int) (x4 : List PV) (Kn : (List UInt8 → List UInt8 → Int → List PV → Option R)) : Option R := bif !eqS x2 ([] : Bytes) then bif leN (x4.length + 1) LIM then Kn x1 ([] : Bytes) x3 (x4 ++ [PV.str x2]) else none else Kn x1 ([] : Bytes) x3 x4
noncomputable def G7.L4 {R : Type} : Nat → List UInt8 → List UInt8 → Int → List PV → (List PV → Option R) → Option R
  | 0, _, _, _, _, _ => none
  | k + 1, x1, x2, x3, x4, K0 => bif leI x3 ((x1.length : Nat) : Int) then bif ltI x3 ((x1.length : Nat) : Int) then bif inI x3 ((x1.length : Nat) : Int) then G7.J7 k x1 x2 x3 (!eqI ((x1.getD (Int.toNat x3) 0).toNat : Int) 32) x4 (fun y5 y6 y7 y8 => G7.L4 k y5 y6 (IntKind.i64.wrap (y7 + 1)) y8 K0) (fun y9 y10 y11 y12 => G7.J8 k y9 y10 y11 y12 (fun y13 y14 y15 y16 => G7.L4 k y13 y14 (IntKind.i64.wrap (y15 + 1)) y16 K0)) else none else G7.J7 k x1 x2 x3 false x4 (fun y17 y18 y19 y20 => G7.L4 k y17 y18 (IntKind.i64.wrap (y19 + 1)) y20 K0) (fun y21 y22 y23 y24 => G7.J8 k y21 y22 y23 y24 (fun y25 y26 y27 y28 => G7.L4 k y25 y26 (IntKind.i64.wrap (y27 + 1)) y28 K0)) else K0 x4
noncomputable def G7.F {R : Type} : Nat → List UInt8 → (List PV → Option R) → Option R
  | 0, _, _ => none
  | k + 1, a1, K => G7.L4 k a1 ([] : Bytes) 0 [] (fun y2 => K y2)
noncomputable def G7.ks : List AK := [.str]
noncomputable def G7.A (k : Nat) : List PV → Cps GV := fun vs R K => G7.F k (strOf (vs.getD 0 .any)) (fun r1 => K (GV.pv (PV.sl 1 r1)))
noncomputable def G7.G (k : Nat) : PureG := argG G7.ks (G7.A k)
noncomputable def G7.c : Code := Tryz.f7.body.getD .skip
noncomputable def G7.rho (k : Nat) : RhoF := rnil
noncomputable def G7.sL4 : Shape := ⟨[(0, .str), (3, .fix (CV.orow 3)), (4, .str), (5, .int .i64)], [(3, (.row 9))], []⟩
noncomputable def G7.xL4_0 : Shape := ⟨[(3, .fix (CV.orow 3))], [(3, (.row 9))], []⟩
noncomputable def G7.mL4 : Exit → St → St := maskOf tyE [(0, G7.xL4_0)] noSh noSh
noncomputable def G7.eL4 : LoopE := ⟨4, G7.sL4, G7.mL4, fun k vs R K => G7.L4 k (strOf (vs.getD 0 .any)) (strOf (vs.getD 2 .any)) (intOf (vs.getD 3 .any)) (slOf (vs.getD 4 .any)) (fun y1 => K (.exit 0) (G7.xL4_0.build [.any, PV.sl 0 y1]))⟩
noncomputable def G7.sJ7 : Shape := ⟨[(0, .str), (3, .fix (CV.orow 3)), (4, .str), (5, .int .i64), (21, .bool)], [(3, (.row 9))], []⟩
noncomputable def G7.xJ7_1 : Shape := ⟨[(0, .str), (3, .fix (CV.orow 3)), (4, .str), (5, .int .i64)], [(3, (.row 9))], []⟩
noncomputable def G7.xJ7_n : Shape := ⟨[(0, .str), (3, .fix (CV.orow 3)), (4, .str), (5, .int .i64)], [(3, (.row 9))], []⟩
noncomputable def G7.mJ7 : Exit → St → St := maskOf tyE [(1, G7.xJ7_1)] noSh G7.xJ7_n
noncomputable def G7.eJ7 : CutE := ⟨7, G7.sJ7, G7.mJ7, fun k vs R K => G7.J7 k (strOf (vs.getD 0 .any)) (strOf (vs.getD 2 .any)) (intOf (vs.getD 3 .any)) (boolOf (vs.getD 4 .any)) (slOf (vs.getD 5 .any)) (fun y0 y2 y3 y4 => K (.exit 1) (G7.xJ7_1.build [PV.str y0, .any, PV.str y2, PV.int .i64 y3, PV.sl 0 y4])) (fun y0 y2 y3 y4 => K (.normal) (G7.xJ7_n.build [PV.str y0, .any, PV.str y2, PV.int .i64 y3, PV.sl 0 y4]))⟩
noncomputable def G7.sJ8 : Shape := ⟨[(0, .str), (3, .fix (CV.orow 3)), (4, .str), (5, .int .i64)], [(3, (.row 9))], []⟩
noncomputable def G7.xJ8_n : Shape := ⟨[(0, .str), (3, .fix (CV.orow 3)), (4, .str), (5, .int .i64)], [(3, (.row 9))], []⟩
noncomputable def G7.mJ8 : Exit → St → St := maskOf tyE [] noSh G7.xJ8_n
noncomputable def G7.eJ8 : CutE := ⟨8, G7.sJ8, G7.mJ8, fun k vs R K => G7.J8 k (strOf (vs.getD 0 .any)) (strOf (vs.getD 2 .any)) (intOf (vs.getD 3 .any)) (slOf (vs.getD 4 .any)) (fun y0 y2 y3 y4 => K (.normal) (G7.xJ8_n.build [PV.str y0, .any, PV.str y2, PV.int .i64 y3, PV.sl 0 y4]))⟩
noncomputable def G7.ls : List LoopE := [G7.eL4]
noncomputable def G7.cs : List CutE := [G7.eJ7, G7.eJ8]
theorem G7.tL4 (k : Nat) (vs : List PV) (R : Type) (K : Exit → St → Option R) : G7.eL4.L (k + 1) vs R K = exec tyE Tryz.f7.ntmps (G7.rho k R) (lam tyE k G7.cs G7.ls R) (loopAt G7.c 4) (G7.sL4.build vs) (loopK tyE G7.eL4 k K) := by kernel_rfl
theorem G7.tJ7 (k : Nat) (vs : List PV) (R : Type) (K : Exit → St → Option R) : G7.eJ7.J k vs R K = exec tyE Tryz.f7.ntmps (G7.rho k R) (lam tyE k G7.cs G7.ls R) (secondAt G7.c 7) (G7.sJ7.build vs) (fun x st => K x (G7.mJ7 x st)) := by kernel_rfl
theorem G7.tJ8 (k : Nat) (vs : List PV) (R : Type) (K : Exit → St → Option R) : G7.eJ8.J k vs R K = exec tyE Tryz.f7.ntmps (G7.rho k R) (lam tyE k G7.cs G7.ls R) (secondAt G7.c 8) (G7.sJ8.build vs) (fun x st => K x (G7.mJ8 x st)) := by kernel_rfl
theorem G7.tower : Tower tyE Tryz.f7.ntmps G7.c G7.rho G7.ls G7.cs := tower_of (AllL.cons ⟨by kernel_rfl, fun _ _ _ => by kernel_rfl, maskOf_weak tyE [(0, G7.xL4_0)] noSh noSh, G7.tL4⟩ AllL.nil) (AllL.cons ⟨by kernel_rfl, maskOf_weak tyE [(1, G7.xJ7_1)] noSh G7.xJ7_n, G7.tJ7⟩ (AllL.cons ⟨by kernel_rfl, maskOf_weak tyE [] noSh G7.xJ8_n, G7.tJ8⟩ AllL.nil))
theorem G7.body : Tryz.f7.body = some G7.c := by kernel_rfl
theorem G7.name : (Tryz.f7.name == "runtime.NumGoroutine") = false := by kernel_rfl
theorem G7.tF (k : Nat) (vs : List PV) (R : Type) (K : GV → Option R) : G7.A (k + 1) vs R K = execPure tyE (G7.rho k R) (lam tyE k G7.cs G7.ls R) Tryz.f7 (canonArgs G7.ks 0 vs) K := by kernel_rfl
theorem G7.zero {W0 : World} : PureOk Tryz.prog tyE W0 7 (G7.G 0) := pureOk_none (enters_of Tryz.func7 G7.name (by rw [G7.body]; rfl)) (argG_none fun _ _ _ => by kernel_rfl)
theorem G7.step {W0 : World} (k : Nat) (h : ∀ j, j ≤ k → RhoAll Tryz.prog tyE tyB W0 (G7.rho j)) : PureOk Tryz.prog tyE W0 7 (G7.G (k + 1)) := G7.tower.pure tyOk Tryz.func7 G7.body G7.name h (argG_ok (G7.tF k))
theorem G7.all {W0 : World} (hW : WOk W0) (j : Nat) : RhoAll Tryz.prog tyE tyB W0 (G7.rho j) := rnil_all
theorem G7.ok {W0 : World} (hW : WOk W0) : ∀ k, PureOk Tryz.prog tyE W0 7 (G7.G k)
  | 0 => G7.zero
  | k + 1 => G7.step k fun j _ => G7.all hW j
end
end Go.Dip
end

/- Printed by program (wip/tools/mkrun.py): the closed run, in pieces; each piece by the kernel, with those ahead of it as they are told. -/
section
set_option maxRecDepth 100000
set_option linter.unusedVariables false
namespace Go.Dip
open Go.Proofs
section
variable {W0 : World}
def mem0 : Memo := []
theorem mem0_ok (hW : WOk W0) : mem0.Ok Tryz.prog tyE W0 := trivial
def run1A : List PV := [.str [116, 101, 120, 116, 42]]
def run1V : GV := .tup [.p (.agg [.int .u8 (42), .str [], .sl 3 [.agg [.int .u8 (110), .str [116, 101, 120, 116], .sl 3 []]]]), .p (.int .i64 (0))]
theorem run1 : runP fnsT tyE libN mem0 60 201 run1A = some run1V := by kernel_rfl
def mem1 : Memo := (201, run1A, run1V) :: mem0
theorem mem1_ok (hW : WOk W0) : mem1.Ok Tryz.prog tyE W0 := memo_of tyOk fnsOk (mem0_ok hW) (fun ρ hρ => libN_ok hW ρ hρ) run1
def run2A : List PV := [.agg [.sl 5 [.agg [.str [100, 111, 99], .int .u8 (42), .str [], .sl 3 [.agg [.int .u8 (110), .str [116, 101, 120, 116], .sl 3 []]], .sl 2 []]], .sl 1 []]]
def run2V : GV := .c (.p (.bool true))
theorem run2 : runP fnsT tyE libN mem1 60 125 run2A = some run2V := by kernel_rfl
def mem2 : Memo := (125, run2A, run2V) :: mem1
theorem mem2_ok (hW : WOk W0) : mem2.Ok Tryz.prog tyE W0 := memo_of tyOk fnsOk (mem1_ok hW) (fun ρ hρ => libN_ok hW ρ hρ) run2
def run3A : List PV := [.agg [.sl 5 [.agg [.str [100, 111, 99], .int .u8 (42), .str [], .sl 3 [.agg [.int .u8 (110), .str [116, 101, 120, 116], .sl 3 []]], .sl 2 []]], .sl 1 []]]
def run3V : GV := .tup [.p (.str [110, 111, 100, 101, 32, 100, 111, 99, 58, 32, 116, 101, 120, 116, 42, 10]), .p (.int .i64 (0))]
theorem run3 : runP fnsT tyE libN mem2 60 72 run3A = some run3V := by kernel_rfl
def mem3 : Memo := (72, run3A, run3V) :: mem2
theorem mem3_ok (hW : WOk W0) : mem3.Ok Tryz.prog tyE W0 := memo_of tyOk fnsOk (mem2_ok hW) (fun ρ hρ => libN_ok hW ρ hρ) run3
def run4A : List PV := [.str [110, 111, 100, 101, 32, 100, 111, 99, 58, 32, 116, 101, 120, 116, 42, 10]]
def run4V : GV := .tup [.p (.agg [.sl 5 [.agg [.str [100, 111, 99], .int .u8 (42), .str [], .sl 3 [.agg [.int .u8 (110), .str [116, 101, 120, 116], .sl 3 []]], .sl 2 []]], .sl 1 []]), .p (.int .i64 (0))]
theorem run4 : runP fnsT tyE libN mem3 60 73 run4A = some run4V := by kernel_rfl
def mem4 : Memo := (73, run4A, run4V) :: mem3
theorem mem4_ok (hW : WOk W0) : mem4.Ok Tryz.prog tyE W0 := memo_of tyOk fnsOk (mem3_ok hW) (fun ρ hρ => libN_ok hW ρ hρ) run4
def run5A : List PV := [.agg [.sl 5 [.agg [.str [100, 111, 99], .int .u8 (42), .str [], .sl 3 [.agg [.int .u8 (110), .str [116, 101, 120, 116], .sl 3 []]], .sl 2 []]], .sl 1 []], .agg [.int .u8 (0), .str [], .str [], .str [], .sl 1 [], .sl 1 [], .bool false, .sl 8 []]]
def run5V : GV := .tup [.p (.agg [.sl 5 [.agg [.str [100, 111, 99], .int .u8 (42), .str [], .sl 3 [.agg [.int .u8 (110), .str [116, 101, 120, 116], .sl 3 []]], .sl 2 []]], .sl 1 []]), .p (.int .i64 (0))]
theorem run5 : runP fnsT tyE libN mem4 60 75 run5A = some run5V := by kernel_rfl
def mem5 : Memo := (75, run5A, run5V) :: mem4
theorem mem5_ok (hW : WOk W0) : mem5.Ok Tryz.prog tyE W0 := memo_of tyOk fnsOk (mem4_ok hW) (fun ρ hρ => libN_ok hW ρ hρ) run5
def run6A : List PV := [.agg [.int .u8 (42), .str [], .sl 3 [.agg [.int .u8 (110), .str [116, 101, 120, 116], .sl 3 []]]]]
def run6V : GV := .tup [.p (.agg [.sl 1 [.str [116, 101, 120, 116]], .sl 1 [.sl 1 [.int .i64 (0)]], .sl 1 [.bool true]]), .p (.int .i64 (0))]
theorem run6 : runP fnsT tyE libN mem5 60 406 run6A = some run6V := by kernel_rfl
def mem6 : Memo := (406, run6A, run6V) :: mem5
theorem mem6_ok (hW : WOk W0) : mem6.Ok Tryz.prog tyE W0 := memo_of tyOk fnsOk (mem5_ok hW) (fun ρ hρ => libN_ok hW ρ hρ) run6
def run7A : List PV := [.agg [.sl 5 [.agg [.str [100, 111, 99], .int .u8 (42), .str [], .sl 3 [.agg [.int .u8 (110), .str [116, 101, 120, 116], .sl 3 []]], .sl 2 []]], .sl 1 []], .agg [.str [100, 111, 99], .str [], .sl 1 [], .sl 2 [], .sl 5 []]]
def run7V : GV := .c (.p (.int .i64 (0)))
theorem run7 : runP fnsT tyE libN mem6 60 138 run7A = some run7V := by kernel_rfl
def mem7 : Memo := (138, run7A, run7V) :: mem6
theorem mem7_ok (hW : WOk W0) : mem7.Ok Tryz.prog tyE W0 := memo_of tyOk fnsOk (mem6_ok hW) (fun ρ hρ => libN_ok hW ρ hρ) run7
def run8A : List PV := [.agg [.sl 5 [.agg [.str [100, 111, 99], .int .u8 (42), .str [], .sl 3 [.agg [.int .u8 (110), .str [116, 101, 120, 116], .sl 3 []]], .sl 2 []]], .sl 1 []], .agg [.int .u8 (0), .str [], .str [], .str [], .sl 1 [], .sl 1 [], .bool false, .sl 8 []], .agg [.str [100, 111, 99], .str [], .sl 1 [], .sl 2 [], .sl 5 []], .sl 1 []]
def run8V : GV := .tup [.p (.agg [.str [100, 111, 99], .str [], .sl 1 [], .sl 2 [], .sl 5 []]), .p (.sl 1 []), .p (.int .i64 (0))]
theorem run8 : runP fnsT tyE libN mem7 60 80 run8A = some run8V := by kernel_rfl
def mem8 : Memo := (80, run8A, run8V) :: mem7
theorem mem8_ok (hW : WOk W0) : mem8.Ok Tryz.prog tyE W0 := memo_of tyOk fnsOk (mem7_ok hW) (fun ρ hρ => libN_ok hW ρ hρ) run8
def run9A : List PV := [.str [114, 101, 112, 108, 97, 99, 101, 32, 48, 32, 48, 32, 34, 120, 34]]
def run9V : GV := .tup [.p (.agg [.int .u8 (114), .int .i64 (0), .int .i64 (0), .sl 5 [.agg [.str [116, 101, 120, 116], .str [120], .sl 1 [], .sl 2 [], .sl 5 []]], .str [], .str []]), .p (.int .i64 (0))]
theorem run9 : runP fnsT tyE libN mem8 60 86 run9A = some run9V := by kernel_rfl
def mem9 : Memo := (86, run9A, run9V) :: mem8
theorem mem9_ok (hW : WOk W0) : mem9.Ok Tryz.prog tyE W0 := memo_of tyOk fnsOk (mem8_ok hW) (fun ρ hρ => libN_ok hW ρ hρ) run9
def run10A : List PV := [.agg [.str [100, 111, 99], .str [], .sl 1 [], .sl 2 [], .sl 5 []], .agg [.int .u8 (114), .int .i64 (0), .int .i64 (0), .sl 5 [.agg [.str [116, 101, 120, 116], .str [120], .sl 1 [], .sl 2 [], .sl 5 []]], .str [], .str []]]
def run10V : GV := .tup [.p (.agg [.str [100, 111, 99], .str [], .sl 1 [], .sl 2 [], .sl 5 [.agg [.str [116, 101, 120, 116], .str [120], .sl 1 [], .sl 2 [], .sl 5 []]]]), .p (.int .i64 (0))]
theorem run10 : runP fnsT tyE libN mem9 60 158 run10A = some run10V := by kernel_rfl
def mem10 : Memo := (158, run10A, run10V) :: mem9
theorem mem10_ok (hW : WOk W0) : mem10.Ok Tryz.prog tyE W0 := memo_of tyOk fnsOk (mem9_ok hW) (fun ρ hρ => libN_ok hW ρ hρ) run10
def run11A : List PV := [.agg [.sl 5 [.agg [.str [100, 111, 99], .int .u8 (42), .str [], .sl 3 [.agg [.int .u8 (110), .str [116, 101, 120, 116], .sl 3 []]], .sl 2 []]], .sl 1 []], .agg [.str [100, 111, 99], .str [], .sl 1 [], .sl 2 [], .sl 5 [.agg [.str [116, 101, 120, 116], .str [120], .sl 1 [], .sl 2 [], .sl 5 []]]]]
def run11V : GV := .c (.p (.int .i64 (0)))
theorem run11 : runP fnsT tyE libN mem10 60 138 run11A = some run11V := by kernel_rfl
def mem11 : Memo := (138, run11A, run11V) :: mem10
theorem mem11_ok (hW : WOk W0) : mem11.Ok Tryz.prog tyE W0 := memo_of tyOk fnsOk (mem10_ok hW) (fun ρ hρ => libN_ok hW ρ hρ) run11
def run12A : List PV := [.agg [.sl 5 [.agg [.str [100, 111, 99], .int .u8 (42), .str [], .sl 3 [.agg [.int .u8 (110), .str [116, 101, 120, 116], .sl 3 []]], .sl 2 []]], .sl 1 []], .agg [.int .u8 (0), .str [], .str [], .str [], .sl 1 [], .sl 1 [], .bool false, .sl 8 []], .agg [.str [100, 111, 99], .str [], .sl 1 [], .sl 2 [], .sl 5 [.agg [.str [116, 101, 120, 116], .str [120], .sl 1 [], .sl 2 [], .sl 5 []]]], .sl 1 []]
def run12V : GV := .tup [.p (.agg [.str [100, 111, 99], .str [], .sl 1 [], .sl 2 [], .sl 5 [.agg [.str [116, 101, 120, 116], .str [120], .sl 1 [], .sl 2 [], .sl 5 []]]]), .p (.sl 1 []), .p (.int .i64 (0))]
theorem run12 : runP fnsT tyE libN mem11 60 80 run12A = some run12V := by kernel_rfl
def mem12 : Memo := (80, run12A, run12V) :: mem11
theorem mem12_ok (hW : WOk W0) : mem12.Ok Tryz.prog tyE W0 := memo_of tyOk fnsOk (mem11_ok hW) (fun ρ hρ => libN_ok hW ρ hρ) run12
def run13A : List PV := [.agg [.str [100, 111, 99], .str [], .sl 1 [], .sl 2 [], .sl 5 []], .agg [.str [100, 111, 99], .str [], .sl 1 [], .sl 2 [], .sl 5 [.agg [.str [116, 101, 120, 116], .str [120], .sl 1 [], .sl 2 [], .sl 5 []]]]]
def run13V : GV := .tup [.p (.sl 6 [.agg [.int .u8 (114), .int .i64 (0), .int .i64 (0), .sl 5 [.agg [.str [116, 101, 120, 116], .str [120], .sl 1 [], .sl 2 [], .sl 5 []]], .str [], .str []]]), .p (.int .i64 (0))]
theorem run13 : runP fnsT tyE libN mem12 60 160 run13A = some run13V := by kernel_rfl
def mem13 : Memo := (160, run13A, run13V) :: mem12
theorem mem13_ok (hW : WOk W0) : mem13.Ok Tryz.prog tyE W0 := memo_of tyOk fnsOk (mem12_ok hW) (fun ρ hρ => libN_ok hW ρ hρ) run13
def run14A : List PV := [.agg [.sl 5 [.agg [.str [100, 111, 99], .int .u8 (42), .str [], .sl 3 [.agg [.int .u8 (110), .str [116, 101, 120, 116], .sl 3 []]], .sl 2 []]], .sl 1 []], .agg [.int .u8 (0), .str [], .str [], .str [], .sl 1 [], .sl 1 [], .bool false, .sl 8 []], .agg [.str [100, 111, 99], .str [], .sl 1 [], .sl 2 [], .sl 5 [], .sl 1 [], .str [100, 111, 99], .str [], .sl 1 [], .sl 2 [], .sl 5 []], .agg [.int .u8 (114), .int .i64 (0), .int .i64 (0), .sl 5 [.agg [.str [116, 101, 120, 116], .str [120], .sl 1 [], .sl 2 [], .sl 5 []]], .str [], .str []]]
def run14V : GV := .tup [.p (.sl 6 [.agg [.int .u8 (114), .int .i64 (0), .int .i64 (0), .sl 5 [.agg [.str [116, 101, 120, 116], .str [120], .sl 1 [], .sl 2 [], .sl 5 []]], .str [], .str []]]), .p (.agg [.str [100, 111, 99], .str [], .sl 1 [], .sl 2 [], .sl 5 [.agg [.str [116, 101, 120, 116], .str [120], .sl 1 [], .sl 2 [], .sl 5 []]], .sl 1 [], .str [100, 111, 99], .str [], .sl 1 [], .sl 2 [], .sl 5 [.agg [.str [116, 101, 120, 116], .str [120], .sl 1 [], .sl 2 [], .sl 5 []]]]), .p (.int .i64 (0))]
theorem run14 : runP fnsT tyE libN mem13 60 87 run14A = some run14V := by kernel_rfl
def mem14 : Memo := (87, run14A, run14V) :: mem13
theorem mem14_ok (hW : WOk W0) : mem14.Ok Tryz.prog tyE W0 := memo_of tyOk fnsOk (mem13_ok hW) (fun ρ hρ => libN_ok hW ρ hρ) run14
def run15A : List PV := [.str [110, 111, 100, 101, 32, 100, 111, 99, 58, 32, 116, 101, 120, 116, 42, 10, 111, 112, 101, 110, 32, 100, 111, 99, 91, 93, 10, 108, 101, 102, 116, 32, 114, 101, 112, 108, 97, 99, 101, 32, 48, 32, 48, 32, 34, 120, 34, 10, 115, 104, 111, 119, 32, 114, 105, 103, 104, 116]]
def run15V : GV := .c (.p (.sl 1 [.sl 1 [], .sl 1 [.str [111, 107]], .sl 1 [.str [111, 107, 32, 49]], .sl 1 [.str [100, 111, 99, 91, 34, 120, 34, 93]]]))
theorem run15 : runP fnsT tyE libN mem14 60 8 run15A = some run15V := by kernel_rfl
def mem15 : Memo := (8, run15A, run15V) :: mem14
theorem mem15_ok (hW : WOk W0) : mem15.Ok Tryz.prog tyE W0 := memo_of tyOk fnsOk (mem14_ok hW) (fun ρ hρ => libN_ok hW ρ hρ) run15
end
end Go.Dip
end
