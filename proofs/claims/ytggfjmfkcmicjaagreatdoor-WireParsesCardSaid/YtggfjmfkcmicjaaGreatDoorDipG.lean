/- Joined by program out of: Fun2. -/
import Derived.Test.YtggfjmfkcmicjaaGreatDoorDipF
import Derived.KernelRfl
set_option linter.all false
/- Printed by program: the functions of a seat, plainly, and that they are what the evaluator says. -/
section
set_option linter.unusedVariables false
set_option maxRecDepth 100000
namespace Go.Dip
open Go.Proofs
noncomputable section
def G147.F {R : Type} : Nat → Int → List UInt8 → Int → Bool → (List UInt8 → Int → Bool → Option R) → Option R
  | 0, _, _, _, _, _ => none
  | k + 1, a1, h2, h3, h4, K => G145.F k a1 h2 h3 h4 (fun r5 o6 o7 o8 => bif r5 then K o6 (IntKind.i64.wrap (o7 + 1)) o8 else K o6 o7 true)
def G147.sh : Shape := ⟨[(0, .fix (CV.ptr 1000 0)), (1, .int .u8)], [(1000, (.box [.str, .int .i64, .bool]))], []⟩
def G147.A (k : Nat) : List PV → (R : Type) → (GV → List (Nat × Ob) → Option R) → Option R := fun vs R K => G147.F k (intOf (vs.getD 1 .any)) (strOf (vs.getD 2 .any)) (intOf (vs.getD 3 .any)) (boolOf (vs.getD 4 .any)) (fun o1 o2 o3 => K (GV.tup []) [(1000, Ob.box [CV.p (PV.str o1), CV.p (PV.int .i64 o2), CV.p (PV.bool o3)])])
def G147.G (k : Nat) : HeapG := argH 2 G147.sh (G147.A k)
def G147.c : Code := Tryz.f147.body.getD .skip
def G147.rho (k : Nat) : RhoF := (rh 145 (G145.G k) rnil)
def G147.ls : List LoopE := []
def G147.cs : List CutE := []
theorem G147.tower : Tower tyE Tryz.f147.ntmps G147.c G147.rho G147.ls G147.cs := tower_of AllL.nil AllL.nil
theorem G147.body : Tryz.f147.body = some G147.c := by kernel_rfl
theorem G147.name : (Tryz.f147.name == "runtime.NumGoroutine") = false := by kernel_rfl
theorem G147.tF (k : Nat) (vs : List PV) (R : Type) (K : GV → List (Nat × Ob) → Option R) : G147.A (k + 1) vs R K = execHeap tyE (G147.rho k R) (lam tyE k G147.cs G147.ls R) Tryz.f147 (G147.sh.asOf 2 vs) (G147.sh.hOf vs) K := by kernel_rfl
theorem G147.zero {W0 : World} : HeapGOk Tryz.prog tyE tyB W0 147 (G147.G 0) := heapOk_none (enters_of Tryz.func147 G147.name (by rw [G147.body]; rfl)) (argH_none fun _ _ _ => by kernel_rfl)
theorem G147.step {W0 : World} (k : Nat) (h : ∀ j, j ≤ k → RhoAll Tryz.prog tyE tyB W0 (G147.rho j)) : HeapGOk Tryz.prog tyE tyB W0 147 (G147.G (k + 1)) := G147.tower.heapH tyOk Tryz.func147 G147.body G147.name h (G147.tF k)
theorem G147.all {W0 : World} (hW : WOk W0) (j : Nat) : RhoAll Tryz.prog tyE tyB W0 (G147.rho j) := ((G145.ok hW j).all rnil_all)
theorem G147.ok {W0 : World} (hW : WOk W0) : ∀ k, HeapGOk Tryz.prog tyE tyB W0 147 (G147.G k)
  | 0 => G147.zero
  | k + 1 => G147.step k fun j _ => G147.all hW j
def G146.J6 {R : Type} (k : Nat) (x1 : List UInt8) (x2 : List UInt8) (x3 : Int) (x4 : Bool) (Kr : (List UInt8 → List UInt8 → Int → Bool → Option R)) (Kn : (List UInt8 → List UInt8 → Int → Bool → Option R)) : Option R := bif geI x3 ((x2.length : Nat) : Int) then Kr ([] : Bytes) x2 x3 true else bif inR x3 (IntKind.i64.wrap (x3 + 1)) ((x2.length : Nat) : Int) then bif leN (x1.length + (sub x2 x3 (IntKind.i64.wrap (x3 + 1))).length) LIM then Kn (x1 ++ (sub x2 x3 (IntKind.i64.wrap (x3 + 1)))) x2 (IntKind.i64.wrap (x3 + 1)) x4 else none else none
def G146.J4 {R : Type} (k : Nat) (x1 : List UInt8) (x2 : List UInt8) (x3 : Int) (x4 : Bool) (Kr : (List UInt8 → List UInt8 → Int → Bool → Option R)) (Kn : (List UInt8 → List UInt8 → Int → Bool → Option R)) : Option R := G145.F k 92 x2 x3 x4 (fun r5 o6 o7 o8 => bif r5 then G146.J6 k x1 o6 (IntKind.i64.wrap (o7 + 1)) o8 (fun y9 y10 y11 y12 => Kr y9 y10 y11 y12) (fun y13 y14 y15 y16 => Kn y13 y14 y15 y16) else G146.J6 k x1 o6 o7 o8 (fun y17 y18 y19 y20 => Kr y17 y18 y19 y20) (fun y21 y22 y23 y24 => Kn y21 y22 y23 y24))
def G146.L3 {R : Type} : Nat → List UInt8 → List UInt8 → Int → Bool → (List UInt8 → List UInt8 → Int → Bool → Option R) → (List UInt8 → List UInt8 → Int → Bool → Option R) → Option R
  | 0, _, _, _, _, _, _ => none
  | k + 1, x1, x2, x3, x4, K0, Kr => bif !x4 then G145.F k 34 x2 x3 x4 (fun r5 o6 o7 o8 => bif !r5 then G146.J4 k x1 o6 o7 o8 (fun y9 y10 y11 y12 => Kr y9 y10 y11 y12) (fun y13 y14 y15 y16 => G146.L3 k y13 y14 y15 y16 K0 Kr) else K0 x1 o6 o7 o8) else K0 x1 x2 x3 x4
def G146.F {R : Type} : Nat → List UInt8 → Int → Bool → (List UInt8 → List UInt8 → Int → Bool → Option R) → Option R
  | 0, _, _, _, _ => none
  | k + 1, h1, h2, h3, K => G147.F k 34 h1 h2 h3 (fun o4 o5 o6 => G146.L3 k ([] : Bytes) o4 o5 o6 (fun y7 y8 y9 y10 => G147.F k 34 y8 y9 y10 (fun o11 o12 o13 => K y7 o11 o12 o13)) (fun y14 y15 y16 y17 => K y14 y15 y16 y17))
def G146.sh : Shape := ⟨[(0, .fix (CV.ptr 1000 0))], [(1000, (.box [.str, .int .i64, .bool]))], []⟩
def G146.A (k : Nat) : List PV → (R : Type) → (GV → List (Nat × Ob) → Option R) → Option R := fun vs R K => G146.F k (strOf (vs.getD 1 .any)) (intOf (vs.getD 2 .any)) (boolOf (vs.getD 3 .any)) (fun r1 o2 o3 o4 => K (GV.pv (PV.str r1)) [(1000, Ob.box [CV.p (PV.str o2), CV.p (PV.int .i64 o3), CV.p (PV.bool o4)])])
def G146.G (k : Nat) : HeapG := argH 1 G146.sh (G146.A k)
def G146.c : Code := Tryz.f146.body.getD .skip
def G146.rho (k : Nat) : RhoF := (rh 147 (G147.G k) (rh 145 (G145.G k) rnil))
def G146.sL3 : Shape := ⟨[(0, .fix (CV.ptr 1000 0)), (3, .str)], [(1000, (.box [.str, .int .i64, .bool]))], []⟩
def G146.xL3_0 : Shape := ⟨[(0, .fix (CV.ptr 1000 0)), (3, .str)], [(1000, (.box [.str, .int .i64, .bool]))], []⟩
def G146.xL3_r : Shape := ⟨[(2, .str)], [(1000, (.box [.str, .int .i64, .bool]))], []⟩
def G146.mL3 : Exit → St → St := maskOf tyE [(0, G146.xL3_0)] G146.xL3_r noSh
def G146.eL3 : LoopE := ⟨3, G146.sL3, G146.mL3, fun k vs R K => G146.L3 k (strOf (vs.getD 1 .any)) (strOf (vs.getD 2 .any)) (intOf (vs.getD 3 .any)) (boolOf (vs.getD 4 .any)) (fun y1 y2 y3 y4 => K (.exit 0) (G146.xL3_0.build [.any, PV.str y1, PV.str y2, PV.int .i64 y3, PV.bool y4])) (fun y0 y1 y2 y3 => K (.ret) (G146.xL3_r.build [PV.str y0, PV.str y1, PV.int .i64 y2, PV.bool y3]))⟩
def G146.sJ4 : Shape := ⟨[(0, .fix (CV.ptr 1000 0)), (3, .str)], [(1000, (.box [.str, .int .i64, .bool]))], []⟩
def G146.xJ4_r : Shape := ⟨[(2, .str)], [(1000, (.box [.str, .int .i64, .bool]))], []⟩
def G146.xJ4_n : Shape := ⟨[(0, .fix (CV.ptr 1000 0)), (3, .str)], [(1000, (.box [.str, .int .i64, .bool]))], []⟩
def G146.mJ4 : Exit → St → St := maskOf tyE [] G146.xJ4_r G146.xJ4_n
def G146.eJ4 : CutE := ⟨4, G146.sJ4, G146.mJ4, fun k vs R K => G146.J4 k (strOf (vs.getD 1 .any)) (strOf (vs.getD 2 .any)) (intOf (vs.getD 3 .any)) (boolOf (vs.getD 4 .any)) (fun y0 y1 y2 y3 => K (.ret) (G146.xJ4_r.build [PV.str y0, PV.str y1, PV.int .i64 y2, PV.bool y3])) (fun y1 y2 y3 y4 => K (.normal) (G146.xJ4_n.build [.any, PV.str y1, PV.str y2, PV.int .i64 y3, PV.bool y4]))⟩
def G146.sJ6 : Shape := ⟨[(0, .fix (CV.ptr 1000 0)), (3, .str)], [(1000, (.box [.str, .int .i64, .bool]))], []⟩
def G146.xJ6_r : Shape := ⟨[(2, .str)], [(1000, (.box [.str, .int .i64, .bool]))], []⟩
def G146.xJ6_n : Shape := ⟨[(0, .fix (CV.ptr 1000 0)), (3, .str)], [(1000, (.box [.str, .int .i64, .bool]))], []⟩
def G146.mJ6 : Exit → St → St := maskOf tyE [] G146.xJ6_r G146.xJ6_n
def G146.eJ6 : CutE := ⟨6, G146.sJ6, G146.mJ6, fun k vs R K => G146.J6 k (strOf (vs.getD 1 .any)) (strOf (vs.getD 2 .any)) (intOf (vs.getD 3 .any)) (boolOf (vs.getD 4 .any)) (fun y0 y1 y2 y3 => K (.ret) (G146.xJ6_r.build [PV.str y0, PV.str y1, PV.int .i64 y2, PV.bool y3])) (fun y1 y2 y3 y4 => K (.normal) (G146.xJ6_n.build [.any, PV.str y1, PV.str y2, PV.int .i64 y3, PV.bool y4]))⟩
def G146.ls : List LoopE := [G146.eL3]
def G146.cs : List CutE := [G146.eJ4, G146.eJ6]
theorem G146.tL3 (k : Nat) (vs : List PV) (R : Type) (K : Exit → St → Option R) : G146.eL3.L (k + 1) vs R K = exec tyE Tryz.f146.ntmps (G146.rho k R) (lam tyE k G146.cs G146.ls R) (loopAt G146.c 3) (G146.sL3.build vs) (loopK tyE G146.eL3 k K) := by kernel_rfl
theorem G146.tJ4 (k : Nat) (vs : List PV) (R : Type) (K : Exit → St → Option R) : G146.eJ4.J k vs R K = exec tyE Tryz.f146.ntmps (G146.rho k R) (lam tyE k G146.cs G146.ls R) (secondAt G146.c 4) (G146.sJ4.build vs) (fun x st => K x (G146.mJ4 x st)) := by kernel_rfl
theorem G146.tJ6 (k : Nat) (vs : List PV) (R : Type) (K : Exit → St → Option R) : G146.eJ6.J k vs R K = exec tyE Tryz.f146.ntmps (G146.rho k R) (lam tyE k G146.cs G146.ls R) (secondAt G146.c 6) (G146.sJ6.build vs) (fun x st => K x (G146.mJ6 x st)) := by kernel_rfl
theorem G146.tower : Tower tyE Tryz.f146.ntmps G146.c G146.rho G146.ls G146.cs := tower_of (AllL.cons ⟨by kernel_rfl, fun _ _ _ => by kernel_rfl, maskOf_weak tyE [(0, G146.xL3_0)] G146.xL3_r noSh, G146.tL3⟩ AllL.nil) (AllL.cons ⟨by kernel_rfl, maskOf_weak tyE [] G146.xJ4_r G146.xJ4_n, G146.tJ4⟩ (AllL.cons ⟨by kernel_rfl, maskOf_weak tyE [] G146.xJ6_r G146.xJ6_n, G146.tJ6⟩ AllL.nil))
theorem G146.body : Tryz.f146.body = some G146.c := by kernel_rfl
theorem G146.name : (Tryz.f146.name == "runtime.NumGoroutine") = false := by kernel_rfl
theorem G146.tF (k : Nat) (vs : List PV) (R : Type) (K : GV → List (Nat × Ob) → Option R) : G146.A (k + 1) vs R K = execHeap tyE (G146.rho k R) (lam tyE k G146.cs G146.ls R) Tryz.f146 (G146.sh.asOf 1 vs) (G146.sh.hOf vs) K := by kernel_rfl
theorem G146.zero {W0 : World} : HeapGOk Tryz.prog tyE tyB W0 146 (G146.G 0) := heapOk_none (enters_of Tryz.func146 G146.name (by rw [G146.body]; rfl)) (argH_none fun _ _ _ => by kernel_rfl)
theorem G146.step {W0 : World} (k : Nat) (h : ∀ j, j ≤ k → RhoAll Tryz.prog tyE tyB W0 (G146.rho j)) : HeapGOk Tryz.prog tyE tyB W0 146 (G146.G (k + 1)) := G146.tower.heapH tyOk Tryz.func146 G146.body G146.name h (G146.tF k)
theorem G146.all {W0 : World} (hW : WOk W0) (j : Nat) : RhoAll Tryz.prog tyE tyB W0 (G146.rho j) := ((G147.ok hW j).all ((G145.ok hW j).all rnil_all))
theorem G146.ok {W0 : World} (hW : WOk W0) : ∀ k, HeapGOk Tryz.prog tyE tyB W0 146 (G146.G k)
  | 0 => G146.zero
  | k + 1 => G146.step k fun j _ => G146.all hW j
def G148.J3 {R : Type} (k : Nat) (x1 : Int) (x2 : List UInt8) (x3 : Int) (x4 : Bool) (Kn : (Int → List UInt8 → Int → Bool → Option R)) : Option R := Kn x1 x2 (IntKind.i64.wrap (x3 + 1)) x4
def G148.L2 {R : Type} : Nat → Int → List UInt8 → Int → Bool → (Int → List UInt8 → Int → Bool → Option R) → Option R
  | 0, _, _, _, _, _ => none
  | k + 1, x1, x2, x3, x4, K0 => bif ltI x3 ((x2.length : Nat) : Int) then bif inI x3 ((x2.length : Nat) : Int) then bif geI ((x2.getD (Int.toNat x3) 0).toNat : Int) 97 then bif inI x3 ((x2.length : Nat) : Int) then bif leI ((x2.getD (Int.toNat x3) 0).toNat : Int) 122 then G148.J3 k x1 x2 x3 x4 (fun y5 y6 y7 y8 => G148.L2 k y5 y6 y7 y8 K0) else K0 x1 x2 x3 x4 else none else K0 x1 x2 x3 x4 else none else K0 x1 x2 x3 x4
def G148.F {R : Type} : Nat → List UInt8 → Int → Bool → (List UInt8 → List UInt8 → Int → Bool → Option R) → Option R
  | 0, _, _, _, _ => none
  | k + 1, h1, h2, h3, K => G148.L2 k h2 h1 h2 h3 (fun y4 y5 y6 y7 => bif inR y4 y6 ((y5.length : Nat) : Int) then K (sub y5 y4 y6) y5 y6 y7 else none)
def G148.sh : Shape := ⟨[(0, .fix (CV.ptr 1000 0))], [(1000, (.box [.str, .int .i64, .bool]))], []⟩
def G148.A (k : Nat) : List PV → (R : Type) → (GV → List (Nat × Ob) → Option R) → Option R := fun vs R K => G148.F k (strOf (vs.getD 1 .any)) (intOf (vs.getD 2 .any)) (boolOf (vs.getD 3 .any)) (fun r1 o2 o3 o4 => K (GV.pv (PV.str r1)) [(1000, Ob.box [CV.p (PV.str o2), CV.p (PV.int .i64 o3), CV.p (PV.bool o4)])])
def G148.G (k : Nat) : HeapG := argH 1 G148.sh (G148.A k)
def G148.c : Code := Tryz.f148.body.getD .skip
def G148.rho (k : Nat) : RhoF := rnil
def G148.sL2 : Shape := ⟨[(0, .fix (CV.ptr 1000 0)), (3, .int .i64)], [(1000, (.box [.str, .int .i64, .bool]))], []⟩
def G148.xL2_0 : Shape := ⟨[(0, .fix (CV.ptr 1000 0)), (3, .int .i64)], [(1000, (.box [.str, .int .i64, .bool]))], []⟩
def G148.mL2 : Exit → St → St := maskOf tyE [(0, G148.xL2_0)] noSh noSh
def G148.eL2 : LoopE := ⟨2, G148.sL2, G148.mL2, fun k vs R K => G148.L2 k (intOf (vs.getD 1 .any)) (strOf (vs.getD 2 .any)) (intOf (vs.getD 3 .any)) (boolOf (vs.getD 4 .any)) (fun y1 y2 y3 y4 => K (.exit 0) (G148.xL2_0.build [.any, PV.int .i64 y1, PV.str y2, PV.int .i64 y3, PV.bool y4]))⟩
def G148.sJ3 : Shape := ⟨[(0, .fix (CV.ptr 1000 0)), (3, .int .i64)], [(1000, (.box [.str, .int .i64, .bool]))], []⟩
def G148.xJ3_n : Shape := ⟨[(0, .fix (CV.ptr 1000 0)), (3, .int .i64)], [(1000, (.box [.str, .int .i64, .bool]))], []⟩
def G148.mJ3 : Exit → St → St := maskOf tyE [] noSh G148.xJ3_n
def G148.eJ3 : CutE := ⟨3, G148.sJ3, G148.mJ3, fun k vs R K => G148.J3 k (intOf (vs.getD 1 .any)) (strOf (vs.getD 2 .any)) (intOf (vs.getD 3 .any)) (boolOf (vs.getD 4 .any)) (fun y1 y2 y3 y4 => K (.normal) (G148.xJ3_n.build [.any, PV.int .i64 y1, PV.str y2, PV.int .i64 y3, PV.bool y4]))⟩
def G148.ls : List LoopE := [G148.eL2]
def G148.cs : List CutE := [G148.eJ3]
theorem G148.tL2 (k : Nat) (vs : List PV) (R : Type) (K : Exit → St → Option R) : G148.eL2.L (k + 1) vs R K = exec tyE Tryz.f148.ntmps (G148.rho k R) (lam tyE k G148.cs G148.ls R) (loopAt G148.c 2) (G148.sL2.build vs) (loopK tyE G148.eL2 k K) := by kernel_rfl
theorem G148.tJ3 (k : Nat) (vs : List PV) (R : Type) (K : Exit → St → Option R) : G148.eJ3.J k vs R K = exec tyE Tryz.f148.ntmps (G148.rho k R) (lam tyE k G148.cs G148.ls R) (secondAt G148.c 3) (G148.sJ3.build vs) (fun x st => K x (G148.mJ3 x st)) := by kernel_rfl
theorem G148.tower : Tower tyE Tryz.f148.ntmps G148.c G148.rho G148.ls G148.cs := tower_of (AllL.cons ⟨by kernel_rfl, fun _ _ _ => by kernel_rfl, maskOf_weak tyE [(0, G148.xL2_0)] noSh noSh, G148.tL2⟩ AllL.nil) (AllL.cons ⟨by kernel_rfl, maskOf_weak tyE [] noSh G148.xJ3_n, G148.tJ3⟩ AllL.nil)
theorem G148.body : Tryz.f148.body = some G148.c := by kernel_rfl
theorem G148.name : (Tryz.f148.name == "runtime.NumGoroutine") = false := by kernel_rfl
theorem G148.tF (k : Nat) (vs : List PV) (R : Type) (K : GV → List (Nat × Ob) → Option R) : G148.A (k + 1) vs R K = execHeap tyE (G148.rho k R) (lam tyE k G148.cs G148.ls R) Tryz.f148 (G148.sh.asOf 1 vs) (G148.sh.hOf vs) K := by kernel_rfl
theorem G148.zero {W0 : World} : HeapGOk Tryz.prog tyE tyB W0 148 (G148.G 0) := heapOk_none (enters_of Tryz.func148 G148.name (by rw [G148.body]; rfl)) (argH_none fun _ _ _ => by kernel_rfl)
theorem G148.step {W0 : World} (k : Nat) (h : ∀ j, j ≤ k → RhoAll Tryz.prog tyE tyB W0 (G148.rho j)) : HeapGOk Tryz.prog tyE tyB W0 148 (G148.G (k + 1)) := G148.tower.heapH tyOk Tryz.func148 G148.body G148.name h (G148.tF k)
theorem G148.all {W0 : World} (hW : WOk W0) (j : Nat) : RhoAll Tryz.prog tyE tyB W0 (G148.rho j) := rnil_all
theorem G148.ok {W0 : World} (hW : WOk W0) : ∀ k, HeapGOk Tryz.prog tyE tyB W0 148 (G148.G k)
  | 0 => G148.zero
  | k + 1 => G148.step k fun j _ => G148.all hW j
def G121.J20 {R : Type} (k : Nat) (x1 : Int) (x2 : Int) (x3 : List UInt8) (x4 : List UInt8) (x5 : List UInt8) (x6 : List UInt8) (x7 : List UInt8) (x8 : Int) (x9 : Bool) (x10 : List PV) (Kn : (Int → Int → List UInt8 → List UInt8 → List UInt8 → List UInt8 → List UInt8 → Int → Bool → List PV → Option R)) : Option R := G147.F k x2 x7 x8 x9 (fun o11 o12 o13 => G148.F k o11 o12 o13 (fun r14 o15 o16 o17 => G147.F k 61 o15 o16 o17 (fun o18 o19 o20 => G146.F k o18 o19 o20 (fun r21 o22 o23 o24 => bif leN (x10.length + 1) LIM then Kn x1 32 x3 x4 x5 x6 o22 o23 o24 (x10 ++ [PV.agg [PV.str r14, PV.str r21]]) else none))))
def G121.J26 {R : Type} (k : Nat) (p_G149_F : Int → List UInt8 → Int → Bool → (List PV → List UInt8 → Int → Bool → Option R) → Option R) (x1 : Int) (x2 : List UInt8) (x3 : List UInt8) (x4 : List UInt8) (x5 : List UInt8) (x6 : List UInt8) (x7 : Int) (x8 : Bool) (x9 : List PV) (Kr : (List UInt8 → List UInt8 → List PV → List UInt8 → Int → Bool → List PV → Option R)) : Option R := G147.F k 91 x6 x7 x8 (fun o10 o11 o12 => p_G149_F (IntKind.i64.wrap (x1 - 1)) o10 o11 o12 (fun r13 o14 o15 o16 => G147.F k 93 o14 o15 o16 (fun o17 o18 o19 => Kr x4 x5 r13 o17 o18 o19 x9)))
def G149.J3 {R : Type} (k : Nat) (p_G121_F : Int → List UInt8 → Int → Bool → (List UInt8 → List UInt8 → List PV → List PV → List PV → List UInt8 → Int → Bool → Option R) → Option R) (x1 : Int) (x2 : List PV) (x3 : List UInt8) (x4 : Int) (x5 : Bool) (Kn : (Int → List PV → List UInt8 → Int → Bool → Option R)) : Option R := p_G121_F x1 x3 x4 x5 (fun r6 r7 r8 r9 r10 o11 o12 o13 => bif leN (x2.length + 1) LIM then Kn x1 (x2 ++ [PV.agg [PV.str r6, PV.str r7, PV.sl 1 r8, PV.sl 2 r9, PV.sl 5 r10]]) o11 o12 o13 else none)
mutual
def G121.F {R : Type} : Nat → Int → List UInt8 → Int → Bool → (List UInt8 → List UInt8 → List PV → List PV → List PV → List UInt8 → Int → Bool → Option R) → Option R
  | 0, _, _, _, _, _ => none
  | k + 1, a1, h2, h3, h4, K => bif eqI a1 0 then K [] [] [] [] [] h2 h3 true else G145.F k 34 h2 h3 h4 (fun r5 o6 o7 o8 => bif r5 then G146.F k o6 o7 o8 (fun r9 o10 o11 o12 => G145.F k 60 o10 o11 o12 (fun r13 o14 o15 o16 => bif r13 then G147.F k 60 o14 o15 o16 (fun o17 o18 o19 => G148.F k o17 o18 o19 (fun r20 o21 o22 o23 => G121.L11 k [] [] ([116, 101, 120, 116] : Bytes) r9 [PV.str r20] o21 o22 o23 (fun y24 y25 y26 y27 y28 y29 y30 y31 => G147.F k 62 y29 y30 y31 (fun o32 o33 o34 => K y26 y27 y28 [] [] o32 o33 o34)))) else K ([116, 101, 120, 116] : Bytes) r9 [] [] [] o14 o15 o16)) else G148.F k o6 o7 o8 (fun r35 o36 o37 o38 => G145.F k 40 o36 o37 o38 (fun r39 o40 o41 o42 => bif r39 then G121.L19 k a1 40 [] [] r35 [] o40 o41 o42 [] (fun y43 y44 y45 y46 y47 y48 y49 y50 y51 => G147.F k 41 y48 y49 y50 (fun o52 o53 o54 => G121.J26 k (G149.F k) y43 y44 y45 y46 y47 o52 o53 o54 y51 (fun y55 y56 y57 y58 y59 y60 y61 => K y55 y56 [] y61 y57 y58 y59 y60))) else G121.J26 k (G149.F k) a1 [] [] r35 [] o40 o41 o42 [] (fun y62 y63 y64 y65 y66 y67 y68 => K y62 y63 [] y68 y64 y65 y66 y67))))
def G121.L11 {R : Type} : Nat → List UInt8 → List UInt8 → List UInt8 → List UInt8 → List PV → List UInt8 → Int → Bool → (List UInt8 → List UInt8 → List UInt8 → List UInt8 → List PV → List UInt8 → Int → Bool → Option R) → Option R
  | 0, _, _, _, _, _, _, _, _, _ => none
  | k + 1, x1, x2, x3, x4, x5, x6, x7, x8, K0 => G145.F k 44 x6 x7 x8 (fun r9 o10 o11 o12 => bif r9 then G147.F k 44 o10 o11 o12 (fun o13 o14 o15 => G148.F k o13 o14 o15 (fun r16 o17 o18 o19 => bif leN (x5.length + 1) LIM then G121.L11 k x1 x2 x3 x4 (x5 ++ [PV.str r16]) o17 o18 o19 K0 else none)) else K0 x1 x2 x3 x4 x5 o10 o11 o12)
def G121.L19 {R : Type} : Nat → Int → Int → List UInt8 → List UInt8 → List UInt8 → List UInt8 → List UInt8 → Int → Bool → List PV → (Int → List UInt8 → List UInt8 → List UInt8 → List UInt8 → List UInt8 → Int → Bool → List PV → Option R) → Option R
  | 0, _, _, _, _, _, _, _, _, _, _, _ => none
  | k + 1, x1, x2, x3, x4, x5, x6, x7, x8, x9, x10, K2 => G145.F k x2 x7 x8 x9 (fun r11 o12 o13 o14 => bif r11 then bif !o14 then G121.J20 k x1 x2 x3 x4 x5 x6 o12 o13 o14 x10 (fun y15 y16 y17 y18 y19 y20 y21 y22 y23 y24 => G121.L19 k y15 y16 y17 y18 y19 y20 y21 y22 y23 y24 K2) else K2 x1 x3 x4 x5 x6 o12 o13 o14 x10 else K2 x1 x3 x4 x5 x6 o12 o13 o14 x10)
def G149.F {R : Type} : Nat → Int → List UInt8 → Int → Bool → (List PV → List UInt8 → Int → Bool → Option R) → Option R
  | 0, _, _, _, _, _ => none
  | k + 1, a1, h2, h3, h4, K => G149.L2 k a1 [] h2 h3 h4 (fun y5 y6 y7 y8 => K y5 y6 y7 y8)
def G149.L2 {R : Type} : Nat → Int → List PV → List UInt8 → Int → Bool → (List PV → List UInt8 → Int → Bool → Option R) → Option R
  | 0, _, _, _, _, _, _ => none
  | k + 1, x1, x2, x3, x4, x5, K0 => bif !x5 then bif ltI x4 ((x3.length : Nat) : Int) then G145.F k 93 x3 x4 x5 (fun r6 o7 o8 o9 => bif !r6 then G149.J3 k (G121.F k) x1 x2 o7 o8 o9 (fun y10 y11 y12 y13 y14 => G149.L2 k y10 y11 y12 y13 y14 K0) else K0 x2 o7 o8 o9) else K0 x2 x3 x4 x5 else K0 x2 x3 x4 x5
end
def G121.sh : Shape := ⟨[(0, .fix (CV.ptr 1000 0)), (1, .int .i64)], [(1000, (.box [.str, .int .i64, .bool]))], []⟩
def G121.A (k : Nat) : List PV → (R : Type) → (GV → List (Nat × Ob) → Option R) → Option R := fun vs R K => G121.F k (intOf (vs.getD 1 .any)) (strOf (vs.getD 2 .any)) (intOf (vs.getD 3 .any)) (boolOf (vs.getD 4 .any)) (fun r1 r2 r3 r4 r5 o6 o7 o8 => K (GV.pv (PV.agg [PV.str r1, PV.str r2, PV.sl 1 r3, PV.sl 2 r4, PV.sl 5 r5])) [(1000, Ob.box [CV.p (PV.str o6), CV.p (PV.int .i64 o7), CV.p (PV.bool o8)])])
def G121.G (k : Nat) : HeapG := argH 2 G121.sh (G121.A k)
def G149.sh : Shape := ⟨[(0, .fix (CV.ptr 1000 0)), (1, .int .i64)], [(1000, (.box [.str, .int .i64, .bool]))], []⟩
def G149.A (k : Nat) : List PV → (R : Type) → (GV → List (Nat × Ob) → Option R) → Option R := fun vs R K => G149.F k (intOf (vs.getD 1 .any)) (strOf (vs.getD 2 .any)) (intOf (vs.getD 3 .any)) (boolOf (vs.getD 4 .any)) (fun r1 o2 o3 o4 => K (GV.pv (PV.sl 5 r1)) [(1000, Ob.box [CV.p (PV.str o2), CV.p (PV.int .i64 o3), CV.p (PV.bool o4)])])
def G149.G (k : Nat) : HeapG := argH 2 G149.sh (G149.A k)
def G121.c : Code := Tryz.f121.body.getD .skip
def G121.rho (k : Nat) : RhoF := (rh 145 (G145.G k) (rh 146 (G146.G k) (rh 147 (G147.G k) (rh 148 (G148.G k) (rh 149 (G149.G k) rnil)))))
def G121.sL11 : Shape := ⟨[(0, .fix (CV.ptr 1000 0)), (4, .fix (CV.ptr 4 0)), (5, .fix (CV.ptr 5 0))], [(4, (.box [.str, .str, .fix (CV.nils 1), .fix (CV.nils 2), .fix (CV.nils 5)])), (5, (.box [.str, .str, .fix (CV.orow 29), .fix (CV.nils 2), .fix (CV.nils 5)])), (29, (.row 9)), (1000, (.box [.str, .int .i64, .bool]))], []⟩
def G121.xL11_0 : Shape := ⟨[(0, .fix (CV.ptr 1000 0)), (4, .fix (CV.ptr 4 0)), (5, .fix (CV.ptr 5 0))], [(4, (.box [.str, .str, .fix (CV.nils 1), .fix (CV.nils 2), .fix (CV.nils 5)])), (5, (.box [.str, .str, .fix (CV.orow 29), .fix (CV.nils 2), .fix (CV.nils 5)])), (29, (.row 9)), (1000, (.box [.str, .int .i64, .bool]))], []⟩
def G121.mL11 : Exit → St → St := maskOf tyE [(0, G121.xL11_0)] noSh noSh
def G121.eL11 : LoopE := ⟨11, G121.sL11, G121.mL11, fun k vs R K => G121.L11 k (strOf (vs.getD 3 .any)) (strOf (vs.getD 4 .any)) (strOf (vs.getD 8 .any)) (strOf (vs.getD 9 .any)) (slOf (vs.getD 13 .any)) (strOf (vs.getD 14 .any)) (intOf (vs.getD 15 .any)) (boolOf (vs.getD 16 .any)) (fun y3 y4 y8 y9 y13 y14 y15 y16 => K (.exit 0) (G121.xL11_0.build [.any, .any, .any, PV.str y3, PV.str y4, .any, .any, .any, PV.str y8, PV.str y9, .any, .any, .any, PV.sl 0 y13, PV.str y14, PV.int .i64 y15, PV.bool y16]))⟩
def G121.sL19 : Shape := ⟨[(0, .fix (CV.ptr 1000 0)), (1, .int .i64), (4, .fix (CV.ptr 4 0)), (5, .fix (CV.ptr 5 0)), (6, .int .u8)], [(4, (.box [.str, .str, .fix (CV.nils 1), .fix (CV.nils 2), .fix (CV.nils 5)])), (5, (.box [.str, .str, .fix (CV.nils 1), .fix (CV.orow 9000000), .fix (CV.nils 5)])), (1000, (.box [.str, .int .i64, .bool])), (9000000, (.row 82))], [.cell 5 3 9000000 82]⟩
def G121.xL19_2 : Shape := ⟨[(0, .fix (CV.ptr 1000 0)), (1, .int .i64), (4, .fix (CV.ptr 4 0)), (5, .fix (CV.ptr 5 0))], [(4, (.box [.str, .str, .fix (CV.nils 1), .fix (CV.nils 2), .fix (CV.nils 5)])), (5, (.box [.str, .str, .fix (CV.nils 1), .fix (CV.orow 9000000), .fix (CV.nils 5)])), (1000, (.box [.str, .int .i64, .bool])), (9000000, (.row 82))], []⟩
def G121.mL19 : Exit → St → St := maskOf tyE [(2, G121.xL19_2)] noSh noSh
def G121.eL19 : LoopE := ⟨19, G121.sL19, G121.mL19, fun k vs R K => G121.L19 k (intOf (vs.getD 1 .any)) (intOf (vs.getD 4 .any)) (strOf (vs.getD 5 .any)) (strOf (vs.getD 6 .any)) (strOf (vs.getD 10 .any)) (strOf (vs.getD 11 .any)) (strOf (vs.getD 15 .any)) (intOf (vs.getD 16 .any)) (boolOf (vs.getD 17 .any)) (slOf (vs.getD 18 .any)) (fun y1 y4 y5 y9 y10 y14 y15 y16 y17 => K (.exit 2) (G121.xL19_2.build [.any, PV.int .i64 y1, .any, .any, PV.str y4, PV.str y5, .any, .any, .any, PV.str y9, PV.str y10, .any, .any, .any, PV.str y14, PV.int .i64 y15, PV.bool y16, PV.sl 0 y17]))⟩
def G121.sJ20 : Shape := ⟨[(0, .fix (CV.ptr 1000 0)), (1, .int .i64), (4, .fix (CV.ptr 4 0)), (5, .fix (CV.ptr 5 0)), (6, .int .u8)], [(4, (.box [.str, .str, .fix (CV.nils 1), .fix (CV.nils 2), .fix (CV.nils 5)])), (5, (.box [.str, .str, .fix (CV.nils 1), .fix (CV.orow 9000000), .fix (CV.nils 5)])), (1000, (.box [.str, .int .i64, .bool])), (9000000, (.row 82))], [.cell 5 3 9000000 82]⟩
def G121.xJ20_n : Shape := ⟨[(0, .fix (CV.ptr 1000 0)), (1, .int .i64), (4, .fix (CV.ptr 4 0)), (5, .fix (CV.ptr 5 0)), (6, .int .u8)], [(4, (.box [.str, .str, .fix (CV.nils 1), .fix (CV.nils 2), .fix (CV.nils 5)])), (5, (.box [.str, .str, .fix (CV.nils 1), .fix (CV.orow 9000000), .fix (CV.nils 5)])), (1000, (.box [.str, .int .i64, .bool])), (9000000, (.row 82))], []⟩
def G121.mJ20 : Exit → St → St := maskOf tyE [] noSh G121.xJ20_n
def G121.eJ20 : CutE := ⟨20, G121.sJ20, G121.mJ20, fun k vs R K => G121.J20 k (intOf (vs.getD 1 .any)) (intOf (vs.getD 4 .any)) (strOf (vs.getD 5 .any)) (strOf (vs.getD 6 .any)) (strOf (vs.getD 10 .any)) (strOf (vs.getD 11 .any)) (strOf (vs.getD 15 .any)) (intOf (vs.getD 16 .any)) (boolOf (vs.getD 17 .any)) (slOf (vs.getD 18 .any)) (fun y1 y4 y5 y6 y10 y11 y15 y16 y17 y18 => K (.normal) (G121.xJ20_n.build [.any, PV.int .i64 y1, .any, .any, PV.int .u8 y4, PV.str y5, PV.str y6, .any, .any, .any, PV.str y10, PV.str y11, .any, .any, .any, PV.str y15, PV.int .i64 y16, PV.bool y17, PV.sl 0 y18]))⟩
def G121.sJ26 : Shape := ⟨[(0, .fix (CV.ptr 1000 0)), (1, .int .i64), (4, .fix (CV.ptr 4 0)), (5, .fix (CV.ptr 5 0))], [(4, (.box [.str, .str, .fix (CV.nils 1), .fix (CV.nils 2), .fix (CV.nils 5)])), (5, (.box [.str, .str, .fix (CV.nils 1), .fix (CV.orow 9000000), .fix (CV.nils 5)])), (1000, (.box [.str, .int .i64, .bool])), (9000000, (.row 82))], [.cell 5 3 9000000 82]⟩
def G121.xJ26_r : Shape := ⟨[(4, .fix (CV.ptr 4 0))], [(4, (.box [.str, .str, .fix (CV.nils 1), .fix (CV.orow 9000000), .sl 5])), (1000, (.box [.str, .int .i64, .bool])), (9000000, (.row 82))], []⟩
def G121.mJ26 : Exit → St → St := maskOf tyE [] G121.xJ26_r noSh
def G121.eJ26 : CutE := ⟨26, G121.sJ26, G121.mJ26, fun k vs R K => G121.J26 k (G149.F k) (intOf (vs.getD 1 .any)) (strOf (vs.getD 4 .any)) (strOf (vs.getD 5 .any)) (strOf (vs.getD 9 .any)) (strOf (vs.getD 10 .any)) (strOf (vs.getD 14 .any)) (intOf (vs.getD 15 .any)) (boolOf (vs.getD 16 .any)) (slOf (vs.getD 17 .any)) (fun y1 y2 y5 y6 y7 y8 y9 => K (.ret) (G121.xJ26_r.build [.any, PV.str y1, PV.str y2, .any, .any, PV.sl 5 y5, PV.str y6, PV.int .i64 y7, PV.bool y8, PV.sl 0 y9]))⟩
def G121.ls : List LoopE := [G121.eL11, G121.eL19]
def G121.cs : List CutE := [G121.eJ20, G121.eJ26]
theorem G121.tL11 (k : Nat) (vs : List PV) (R : Type) (K : Exit → St → Option R) : G121.eL11.L (k + 1) vs R K = exec tyE Tryz.f121.ntmps (G121.rho k R) (lam tyE k G121.cs G121.ls R) (loopAt G121.c 11) (G121.sL11.build vs) (loopK tyE G121.eL11 k K) := by kernel_rfl
theorem G121.tL19 (k : Nat) (vs : List PV) (R : Type) (K : Exit → St → Option R) : G121.eL19.L (k + 1) vs R K = exec tyE Tryz.f121.ntmps (G121.rho k R) (lam tyE k G121.cs G121.ls R) (loopAt G121.c 19) (G121.sL19.build vs) (loopK tyE G121.eL19 k K) := by kernel_rfl
theorem G121.tJ20 (k : Nat) (vs : List PV) (R : Type) (K : Exit → St → Option R) : G121.eJ20.J k vs R K = exec tyE Tryz.f121.ntmps (G121.rho k R) (lam tyE k G121.cs G121.ls R) (secondAt G121.c 20) (G121.sJ20.build vs) (fun x st => K x (G121.mJ20 x st)) := by kernel_rfl
theorem G121.tJ26 (k : Nat) (vs : List PV) (R : Type) (K : Exit → St → Option R) : G121.eJ26.J k vs R K = exec tyE Tryz.f121.ntmps (G121.rho k R) (lam tyE k G121.cs G121.ls R) (secondAt G121.c 26) (G121.sJ26.build vs) (fun x st => K x (G121.mJ26 x st)) := by kernel_rfl
theorem G121.tower : Tower tyE Tryz.f121.ntmps G121.c G121.rho G121.ls G121.cs := tower_of (AllL.cons ⟨by kernel_rfl, fun _ _ _ => by kernel_rfl, maskOf_weak tyE [(0, G121.xL11_0)] noSh noSh, G121.tL11⟩ (AllL.cons ⟨by kernel_rfl, fun _ _ _ => by kernel_rfl, maskOf_weak tyE [(2, G121.xL19_2)] noSh noSh, G121.tL19⟩ AllL.nil)) (AllL.cons ⟨by kernel_rfl, maskOf_weak tyE [] noSh G121.xJ20_n, G121.tJ20⟩ (AllL.cons ⟨by kernel_rfl, maskOf_weak tyE [] G121.xJ26_r noSh, G121.tJ26⟩ AllL.nil))
theorem G121.body : Tryz.f121.body = some G121.c := by kernel_rfl
theorem G121.name : (Tryz.f121.name == "runtime.NumGoroutine") = false := by kernel_rfl
theorem G121.tF (k : Nat) (vs : List PV) (R : Type) (K : GV → List (Nat × Ob) → Option R) : G121.A (k + 1) vs R K = execHeap tyE (G121.rho k R) (lam tyE k G121.cs G121.ls R) Tryz.f121 (G121.sh.asOf 2 vs) (G121.sh.hOf vs) K := by kernel_rfl
theorem G121.zero {W0 : World} : HeapGOk Tryz.prog tyE tyB W0 121 (G121.G 0) := heapOk_none (enters_of Tryz.func121 G121.name (by rw [G121.body]; rfl)) (argH_none fun _ _ _ => by kernel_rfl)
theorem G121.step {W0 : World} (k : Nat) (h : ∀ j, j ≤ k → RhoAll Tryz.prog tyE tyB W0 (G121.rho j)) : HeapGOk Tryz.prog tyE tyB W0 121 (G121.G (k + 1)) := G121.tower.heapH tyOk Tryz.func121 G121.body G121.name h (G121.tF k)
def G149.c : Code := Tryz.f149.body.getD .skip
def G149.rho (k : Nat) : RhoF := (rh 145 (G145.G k) (rh 121 (G121.G k) rnil))
def G149.sL2 : Shape := ⟨[(0, .fix (CV.ptr 1000 0)), (1, .int .i64), (5, .fix (CV.orow 5))], [(5, (.row 54)), (1000, (.box [.str, .int .i64, .bool]))], []⟩
def G149.xL2_0 : Shape := ⟨[(5, .fix (CV.orow 5))], [(5, (.row 54)), (1000, (.box [.str, .int .i64, .bool]))], []⟩
def G149.mL2 : Exit → St → St := maskOf tyE [(0, G149.xL2_0)] noSh noSh
def G149.eL2 : LoopE := ⟨2, G149.sL2, G149.mL2, fun k vs R K => G149.L2 k (intOf (vs.getD 1 .any)) (slOf (vs.getD 3 .any)) (strOf (vs.getD 4 .any)) (intOf (vs.getD 5 .any)) (boolOf (vs.getD 6 .any)) (fun y1 y2 y3 y4 => K (.exit 0) (G149.xL2_0.build [.any, PV.sl 0 y1, PV.str y2, PV.int .i64 y3, PV.bool y4]))⟩
def G149.sJ3 : Shape := ⟨[(0, .fix (CV.ptr 1000 0)), (1, .int .i64), (5, .fix (CV.orow 5))], [(5, (.row 54)), (1000, (.box [.str, .int .i64, .bool]))], []⟩
def G149.xJ3_n : Shape := ⟨[(0, .fix (CV.ptr 1000 0)), (1, .int .i64), (5, .fix (CV.orow 5))], [(5, (.row 54)), (1000, (.box [.str, .int .i64, .bool]))], []⟩
def G149.mJ3 : Exit → St → St := maskOf tyE [] noSh G149.xJ3_n
def G149.eJ3 : CutE := ⟨3, G149.sJ3, G149.mJ3, fun k vs R K => G149.J3 k (G121.F k) (intOf (vs.getD 1 .any)) (slOf (vs.getD 3 .any)) (strOf (vs.getD 4 .any)) (intOf (vs.getD 5 .any)) (boolOf (vs.getD 6 .any)) (fun y1 y3 y4 y5 y6 => K (.normal) (G149.xJ3_n.build [.any, PV.int .i64 y1, .any, PV.sl 0 y3, PV.str y4, PV.int .i64 y5, PV.bool y6]))⟩
def G149.ls : List LoopE := [G149.eL2]
def G149.cs : List CutE := [G149.eJ3]
theorem G149.tL2 (k : Nat) (vs : List PV) (R : Type) (K : Exit → St → Option R) : G149.eL2.L (k + 1) vs R K = exec tyE Tryz.f149.ntmps (G149.rho k R) (lam tyE k G149.cs G149.ls R) (loopAt G149.c 2) (G149.sL2.build vs) (loopK tyE G149.eL2 k K) := by kernel_rfl
theorem G149.tJ3 (k : Nat) (vs : List PV) (R : Type) (K : Exit → St → Option R) : G149.eJ3.J k vs R K = exec tyE Tryz.f149.ntmps (G149.rho k R) (lam tyE k G149.cs G149.ls R) (secondAt G149.c 3) (G149.sJ3.build vs) (fun x st => K x (G149.mJ3 x st)) := by kernel_rfl
theorem G149.tower : Tower tyE Tryz.f149.ntmps G149.c G149.rho G149.ls G149.cs := tower_of (AllL.cons ⟨by kernel_rfl, fun _ _ _ => by kernel_rfl, maskOf_weak tyE [(0, G149.xL2_0)] noSh noSh, G149.tL2⟩ AllL.nil) (AllL.cons ⟨by kernel_rfl, maskOf_weak tyE [] noSh G149.xJ3_n, G149.tJ3⟩ AllL.nil)
theorem G149.body : Tryz.f149.body = some G149.c := by kernel_rfl
theorem G149.name : (Tryz.f149.name == "runtime.NumGoroutine") = false := by kernel_rfl
theorem G149.tF (k : Nat) (vs : List PV) (R : Type) (K : GV → List (Nat × Ob) → Option R) : G149.A (k + 1) vs R K = execHeap tyE (G149.rho k R) (lam tyE k G149.cs G149.ls R) Tryz.f149 (G149.sh.asOf 2 vs) (G149.sh.hOf vs) K := by kernel_rfl
theorem G149.zero {W0 : World} : HeapGOk Tryz.prog tyE tyB W0 149 (G149.G 0) := heapOk_none (enters_of Tryz.func149 G149.name (by rw [G149.body]; rfl)) (argH_none fun _ _ _ => by kernel_rfl)
theorem G149.step {W0 : World} (k : Nat) (h : ∀ j, j ≤ k → RhoAll Tryz.prog tyE tyB W0 (G149.rho j)) : HeapGOk Tryz.prog tyE tyB W0 149 (G149.G (k + 1)) := G149.tower.heapH tyOk Tryz.func149 G149.body G149.name h (G149.tF k)
theorem G149.scc {W0 : World} (hW : WOk W0) : ∀ k, HeapGOk Tryz.prog tyE tyB W0 121 (G121.G k) ∧ HeapGOk Tryz.prog tyE tyB W0 149 (G149.G k) := by
  intro k
  induction k using Nat.strongRecOn with
  | _ k ih =>
    cases k with
    | zero => exact ⟨G121.zero, G149.zero⟩
    | succ k => exact ⟨G121.step k (fun j hj => ((G145.ok hW j).all ((G146.ok hW j).all ((G147.ok hW j).all ((G148.ok hW j).all ((ih j (Nat.lt_succ_of_le hj)).2.all rnil_all)))))), G149.step k (fun j hj => ((G145.ok hW j).all ((ih j (Nat.lt_succ_of_le hj)).1.all rnil_all)))⟩
theorem G121.ok {W0 : World} (hW : WOk W0) (k : Nat) : HeapGOk Tryz.prog tyE tyB W0 121 (G121.G k) := (G149.scc hW k).1
theorem G149.ok {W0 : World} (hW : WOk W0) (k : Nat) : HeapGOk Tryz.prog tyE tyB W0 149 (G149.G k) := (G149.scc hW k).2
def G81.F {R : Type} : Nat → List UInt8 → Int → Bool → (List UInt8 → List UInt8 → List PV → List PV → List PV → List UInt8 → Int → Bool → Option R) → Option R
  | 0, _, _, _, _ => none
  | k + 1, h1, h2, h3, K => G121.F k (IntKind.i64.wrap (((h1.length : Nat) : Int) + 1)) h1 h2 h3 (fun r4 r5 r6 r7 r8 o9 o10 o11 => K r4 r5 r6 r7 r8 o9 o10 o11)
def G81.sh : Shape := ⟨[(0, .fix (CV.ptr 1000 0))], [(1000, (.box [.str, .int .i64, .bool]))], []⟩
def G81.A (k : Nat) : List PV → (R : Type) → (GV → List (Nat × Ob) → Option R) → Option R := fun vs R K => G81.F k (strOf (vs.getD 1 .any)) (intOf (vs.getD 2 .any)) (boolOf (vs.getD 3 .any)) (fun r1 r2 r3 r4 r5 o6 o7 o8 => K (GV.pv (PV.agg [PV.str r1, PV.str r2, PV.sl 1 r3, PV.sl 2 r4, PV.sl 5 r5])) [(1000, Ob.box [CV.p (PV.str o6), CV.p (PV.int .i64 o7), CV.p (PV.bool o8)])])
def G81.G (k : Nat) : HeapG := argH 1 G81.sh (G81.A k)
def G81.c : Code := Tryz.f81.body.getD .skip
def G81.rho (k : Nat) : RhoF := (rh 121 (G121.G k) rnil)
def G81.ls : List LoopE := []
def G81.cs : List CutE := []
theorem G81.tower : Tower tyE Tryz.f81.ntmps G81.c G81.rho G81.ls G81.cs := tower_of AllL.nil AllL.nil
theorem G81.body : Tryz.f81.body = some G81.c := by kernel_rfl
theorem G81.name : (Tryz.f81.name == "runtime.NumGoroutine") = false := by kernel_rfl
theorem G81.tF (k : Nat) (vs : List PV) (R : Type) (K : GV → List (Nat × Ob) → Option R) : G81.A (k + 1) vs R K = execHeap tyE (G81.rho k R) (lam tyE k G81.cs G81.ls R) Tryz.f81 (G81.sh.asOf 1 vs) (G81.sh.hOf vs) K := by kernel_rfl
theorem G81.zero {W0 : World} : HeapGOk Tryz.prog tyE tyB W0 81 (G81.G 0) := heapOk_none (enters_of Tryz.func81 G81.name (by rw [G81.body]; rfl)) (argH_none fun _ _ _ => by kernel_rfl)
theorem G81.step {W0 : World} (k : Nat) (h : ∀ j, j ≤ k → RhoAll Tryz.prog tyE tyB W0 (G81.rho j)) : HeapGOk Tryz.prog tyE tyB W0 81 (G81.G (k + 1)) := G81.tower.heapH tyOk Tryz.func81 G81.body G81.name h (G81.tF k)
theorem G81.all {W0 : World} (hW : WOk W0) (j : Nat) : RhoAll Tryz.prog tyE tyB W0 (G81.rho j) := ((G121.ok hW j).all rnil_all)
theorem G81.ok {W0 : World} (hW : WOk W0) : ∀ k, HeapGOk Tryz.prog tyE tyB W0 81 (G81.G k)
  | 0 => G81.zero
  | k + 1 => G81.step k fun j _ => G81.all hW j
def G61.J7 {R : Type} (k : Nat) (x1 : List UInt8) (x2 : List UInt8) (x3 : Int) (Kn : (List UInt8 → List UInt8 → Int → Option R)) : Option R := bif inR x3 (IntKind.i64.wrap (x3 + 1)) ((x1.length : Nat) : Int) then bif leN (x2.length + (sub x1 x3 (IntKind.i64.wrap (x3 + 1))).length) LIM then Kn x1 (x2 ++ (sub x1 x3 (IntKind.i64.wrap (x3 + 1)))) x3 else none else none
def G61.L3 {R : Type} : Nat → List UInt8 → List UInt8 → Int → (List UInt8 → Option R) → Option R
  | 0, _, _, _, _ => none
  | k + 1, x1, x2, x3, K0 => bif ltI x3 ((x1.length : Nat) : Int) then bif inI x3 ((x1.length : Nat) : Int) then bif eqI ((x1.getD (Int.toNat x3) 0).toNat : Int) 34 then bif leN (x2.length + ([92] : Bytes).length) LIM then G61.J7 k x1 (x2 ++ ([92] : Bytes)) x3 (fun y4 y5 y6 => G61.L3 k y4 y5 (IntKind.i64.wrap (y6 + 1)) K0) else none else bif inI x3 ((x1.length : Nat) : Int) then bif eqI ((x1.getD (Int.toNat x3) 0).toNat : Int) 92 then bif leN (x2.length + ([92] : Bytes).length) LIM then G61.J7 k x1 (x2 ++ ([92] : Bytes)) x3 (fun y7 y8 y9 => G61.L3 k y7 y8 (IntKind.i64.wrap (y9 + 1)) K0) else none else G61.J7 k x1 x2 x3 (fun y10 y11 y12 => G61.L3 k y10 y11 (IntKind.i64.wrap (y12 + 1)) K0) else none else none else K0 x2
def G61.F {R : Type} : Nat → List UInt8 → (List UInt8 → Option R) → Option R
  | 0, _, _ => none
  | k + 1, a1, K => G61.L3 k a1 ([34] : Bytes) 0 (fun y2 => bif leN (y2.length + ([34] : Bytes).length) LIM then K (y2 ++ ([34] : Bytes)) else none)
def G61.ks : List AK := [.str]
def G61.A (k : Nat) : List PV → Cps GV := fun vs R K => G61.F k (strOf (vs.getD 0 .any)) (fun r1 => K (GV.pv (PV.str r1)))
def G61.G (k : Nat) : PureG := argG G61.ks (G61.A k)
def G61.c : Code := Tryz.f61.body.getD .skip
def G61.rho (k : Nat) : RhoF := rnil
def G61.sL3 : Shape := ⟨[(0, .str), (3, .str), (4, .int .i64)], [], []⟩
def G61.xL3_0 : Shape := ⟨[(3, .str)], [], []⟩
def G61.mL3 : Exit → St → St := maskOf tyE [(0, G61.xL3_0)] noSh noSh
def G61.eL3 : LoopE := ⟨3, G61.sL3, G61.mL3, fun k vs R K => G61.L3 k (strOf (vs.getD 0 .any)) (strOf (vs.getD 1 .any)) (intOf (vs.getD 2 .any)) (fun y0 => K (.exit 0) (G61.xL3_0.build [PV.str y0]))⟩
def G61.sJ7 : Shape := ⟨[(0, .str), (3, .str), (4, .int .i64)], [], []⟩
def G61.xJ7_n : Shape := ⟨[(0, .str), (3, .str), (4, .int .i64)], [], []⟩
def G61.mJ7 : Exit → St → St := maskOf tyE [] noSh G61.xJ7_n
def G61.eJ7 : CutE := ⟨7, G61.sJ7, G61.mJ7, fun k vs R K => G61.J7 k (strOf (vs.getD 0 .any)) (strOf (vs.getD 1 .any)) (intOf (vs.getD 2 .any)) (fun y0 y1 y2 => K (.normal) (G61.xJ7_n.build [PV.str y0, PV.str y1, PV.int .i64 y2]))⟩
def G61.ls : List LoopE := [G61.eL3]
def G61.cs : List CutE := [G61.eJ7]
theorem G61.tL3 (k : Nat) (vs : List PV) (R : Type) (K : Exit → St → Option R) : G61.eL3.L (k + 1) vs R K = exec tyE Tryz.f61.ntmps (G61.rho k R) (lam tyE k G61.cs G61.ls R) (loopAt G61.c 3) (G61.sL3.build vs) (loopK tyE G61.eL3 k K) := by kernel_rfl
theorem G61.tJ7 (k : Nat) (vs : List PV) (R : Type) (K : Exit → St → Option R) : G61.eJ7.J k vs R K = exec tyE Tryz.f61.ntmps (G61.rho k R) (lam tyE k G61.cs G61.ls R) (secondAt G61.c 7) (G61.sJ7.build vs) (fun x st => K x (G61.mJ7 x st)) := by kernel_rfl
theorem G61.tower : Tower tyE Tryz.f61.ntmps G61.c G61.rho G61.ls G61.cs := tower_of (AllL.cons ⟨by kernel_rfl, fun _ _ _ => by kernel_rfl, maskOf_weak tyE [(0, G61.xL3_0)] noSh noSh, G61.tL3⟩ AllL.nil) (AllL.cons ⟨by kernel_rfl, maskOf_weak tyE [] noSh G61.xJ7_n, G61.tJ7⟩ AllL.nil)
theorem G61.body : Tryz.f61.body = some G61.c := by kernel_rfl
theorem G61.name : (Tryz.f61.name == "runtime.NumGoroutine") = false := by kernel_rfl
theorem G61.tF (k : Nat) (vs : List PV) (R : Type) (K : GV → Option R) : G61.A (k + 1) vs R K = execPure tyE (G61.rho k R) (lam tyE k G61.cs G61.ls R) Tryz.f61 (canonArgs G61.ks 0 vs) K := by kernel_rfl
theorem G61.zero {W0 : World} : PureOk Tryz.prog tyE W0 61 (G61.G 0) := pureOk_none (enters_of Tryz.func61 G61.name (by rw [G61.body]; rfl)) (argG_none fun _ _ _ => by kernel_rfl)
theorem G61.step {W0 : World} (k : Nat) (h : ∀ j, j ≤ k → RhoAll Tryz.prog tyE tyB W0 (G61.rho j)) : PureOk Tryz.prog tyE W0 61 (G61.G (k + 1)) := G61.tower.pure tyOk Tryz.func61 G61.body G61.name h (argG_ok (G61.tF k))
theorem G61.all {W0 : World} (hW : WOk W0) (j : Nat) : RhoAll Tryz.prog tyE tyB W0 (G61.rho j) := rnil_all
theorem G61.ok {W0 : World} (hW : WOk W0) : ∀ k, PureOk Tryz.prog tyE W0 61 (G61.G k)
  | 0 => G61.zero
  | k + 1 => G61.step k fun j _ => G61.all hW j
def G122.J17 {R : Type} (k : Nat) (x1 : List UInt8) (x2 : Int) (x3 : PV) (x4 : PV) (x5 : PV) (x6 : PV) (x7 : PV) (Kn : (List UInt8 → Int → PV → PV → PV → PV → PV → Option R)) : Option R := bif isSl 2 x6 && inI x2 (((slOf x6).length : Nat) : Int) then bif isStr (pcell (pat (slOf x6) x2) 0) then bif leN (x1.length + (strOf (pcell (pat (slOf x6) x2) 0)).length) LIM then bif leN ((x1 ++ (strOf (pcell (pat (slOf x6) x2) 0))).length + ([61] : Bytes).length) LIM then bif isSl 2 x6 && inI x2 (((slOf x6).length : Nat) : Int) then bif (isStr (pcell (pat (slOf x6) x2) 1) && true) then G61.F k (strOf (pcell (pat (slOf x6) x2) 1)) (fun r8 => bif leN (((x1 ++ (strOf (pcell (pat (slOf x6) x2) 0))) ++ ([61] : Bytes)).length + r8.length) LIM then Kn (((x1 ++ (strOf (pcell (pat (slOf x6) x2) 0))) ++ ([61] : Bytes)) ++ r8) x2 x3 x4 x5 x6 x7 else none) else none else none else none else none else none else none
def G122.L13 {R : Type} : Nat → List UInt8 → Int → PV → PV → PV → PV → PV → (List UInt8 → PV → PV → PV → PV → PV → Option R) → Option R
  | 0, _, _, _, _, _, _, _, _ => none
  | k + 1, x1, x2, x3, x4, x5, x6, x7, K2 => bif isSl 2 x6 then bif ltI x2 (((slOf x6).length : Nat) : Int) then bif gtI x2 0 then bif leN (x1.length + ([32] : Bytes).length) LIM then G122.J17 k (x1 ++ ([32] : Bytes)) x2 x3 x4 x5 x6 x7 (fun y8 y9 y10 y11 y12 y13 y14 => G122.L13 k y8 (IntKind.i64.wrap (y9 + 1)) y10 y11 y12 y13 y14 K2) else none else G122.J17 k x1 x2 x3 x4 x5 x6 x7 (fun y15 y16 y17 y18 y19 y20 y21 => G122.L13 k y15 (IntKind.i64.wrap (y16 + 1)) y17 y18 y19 y20 y21 K2) else K2 x1 x3 x4 x5 x6 x7 else none
def G122.J8 {R : Type} (k : Nat) (x1 : List UInt8) (x2 : Int) (x3 : PV) (x4 : PV) (x5 : PV) (x6 : PV) (x7 : PV) (Kn : (List UInt8 → Int → PV → PV → PV → PV → PV → Option R)) : Option R := bif isSl 1 x5 && inI x2 (((slOf x5).length : Nat) : Int) then bif isStr (pcell (pat (slOf x5) x2) 0) then bif leN (x1.length + (strOf (pcell (pat (slOf x5) x2) 0)).length) LIM then Kn (x1 ++ (strOf (pcell (pat (slOf x5) x2) 0))) x2 x3 x4 x5 x6 x7 else none else none else none
def G122.L4 {R : Type} : Nat → List UInt8 → Int → PV → PV → PV → PV → PV → (List UInt8 → PV → PV → PV → PV → PV → Option R) → Option R
  | 0, _, _, _, _, _, _, _, _ => none
  | k + 1, x1, x2, x3, x4, x5, x6, x7, K0 => bif isSl 1 x5 then bif ltI x2 (((slOf x5).length : Nat) : Int) then bif gtI x2 0 then bif leN (x1.length + ([44] : Bytes).length) LIM then G122.J8 k (x1 ++ ([44] : Bytes)) x2 x3 x4 x5 x6 x7 (fun y8 y9 y10 y11 y12 y13 y14 => G122.L4 k y8 (IntKind.i64.wrap (y9 + 1)) y10 y11 y12 y13 y14 K0) else none else G122.J8 k x1 x2 x3 x4 x5 x6 x7 (fun y15 y16 y17 y18 y19 y20 y21 => G122.L4 k y15 (IntKind.i64.wrap (y16 + 1)) y17 y18 y19 y20 y21 K0) else K0 x1 x3 x4 x5 x6 x7 else none
def G122.F {R : Type} : Nat → PV → (List UInt8 → Option R) → Option R
  | 0, _, _ => none
  | k + 1, a1, K => bif PV.isAgg 5 a1 then bif isStr (pcell a1 0) then bif eqS (strOf (pcell a1 0)) ([116, 101, 120, 116] : Bytes) then G122.L4 k ([] : Bytes) 0 (pcell a1 0) (pcell a1 1) (pcell a1 2) (pcell a1 3) (pcell a1 4) (fun y2 y3 y4 y5 y6 y7 => bif isSl 1 y5 then bif gtI (((slOf y5).length : Nat) : Int) 0 then bif leN (([60] : Bytes).length + y2.length) LIM then bif leN ((([60] : Bytes) ++ y2).length + ([62] : Bytes).length) LIM then K ((([60] : Bytes) ++ y2) ++ ([62] : Bytes)) else none else none else K y2 else none) else G122.L13 k ([] : Bytes) 0 (pcell a1 0) (pcell a1 1) (pcell a1 2) (pcell a1 3) (pcell a1 4) (fun y8 y9 y10 y11 y12 y13 => bif isSl 2 y12 then bif gtI (((slOf y12).length : Nat) : Int) 0 then bif leN (([40] : Bytes).length + y8.length) LIM then bif leN ((([40] : Bytes) ++ y8).length + ([41] : Bytes).length) LIM then bif isStr y9 then bif leN ((strOf y9).length + ((([40] : Bytes) ++ y8) ++ ([41] : Bytes)).length) LIM then K ((strOf y9) ++ ((([40] : Bytes) ++ y8) ++ ([41] : Bytes))) else none else none else none else none else bif isStr y9 then bif leN ((strOf y9).length + y8.length) LIM then K ((strOf y9) ++ y8) else none else none else none) else none else none
def G122.ks : List AK := [.pv]
def G122.A (k : Nat) : List PV → Cps GV := fun vs R K => G122.F k (vs.getD 0 .any) (fun r1 => K (GV.pv (PV.str r1)))
def G122.G (k : Nat) : PureG := argG G122.ks (G122.A k)
def G122.c : Code := Tryz.f122.body.getD .skip
def G122.rho (k : Nat) : RhoF := (rp 61 (G61.G k) rnil)
def G122.sL4 : Shape := ⟨[(1, .fix (CV.ptr 1 0)), (3, .str), (4, .int .i64)], [(1, (.box [.pv, .pv, .pv, .pv, .pv]))], []⟩
def G122.xL4_0 : Shape := ⟨[(1, .fix (CV.ptr 1 0)), (3, .str)], [(1, (.box [.pv, .pv, .pv, .pv, .pv]))], []⟩
def G122.mL4 : Exit → St → St := maskOf tyE [(0, G122.xL4_0)] noSh noSh
def G122.eL4 : LoopE := ⟨4, G122.sL4, G122.mL4, fun k vs R K => G122.L4 k (strOf (vs.getD 1 .any)) (intOf (vs.getD 2 .any)) (vs.getD 3 .any) (vs.getD 4 .any) (vs.getD 5 .any) (vs.getD 6 .any) (vs.getD 7 .any) (fun y1 y2 y3 y4 y5 y6 => K (.exit 0) (G122.xL4_0.build [.any, PV.str y1, y2, y3, y4, y5, y6]))⟩
def G122.sJ8 : Shape := ⟨[(1, .fix (CV.ptr 1 0)), (3, .str), (4, .int .i64)], [(1, (.box [.pv, .pv, .pv, .pv, .pv]))], []⟩
def G122.xJ8_n : Shape := ⟨[(1, .fix (CV.ptr 1 0)), (3, .str), (4, .int .i64)], [(1, (.box [.pv, .pv, .pv, .pv, .pv]))], []⟩
def G122.mJ8 : Exit → St → St := maskOf tyE [] noSh G122.xJ8_n
def G122.eJ8 : CutE := ⟨8, G122.sJ8, G122.mJ8, fun k vs R K => G122.J8 k (strOf (vs.getD 1 .any)) (intOf (vs.getD 2 .any)) (vs.getD 3 .any) (vs.getD 4 .any) (vs.getD 5 .any) (vs.getD 6 .any) (vs.getD 7 .any) (fun y1 y2 y3 y4 y5 y6 y7 => K (.normal) (G122.xJ8_n.build [.any, PV.str y1, PV.int .i64 y2, y3, y4, y5, y6, y7]))⟩
def G122.sL13 : Shape := ⟨[(1, .fix (CV.ptr 1 0)), (3, .str), (5, .int .i64)], [(1, (.box [.pv, .pv, .pv, .pv, .pv]))], []⟩
def G122.xL13_2 : Shape := ⟨[(1, .fix (CV.ptr 1 0)), (3, .str)], [(1, (.box [.pv, .pv, .pv, .pv, .pv]))], []⟩
def G122.mL13 : Exit → St → St := maskOf tyE [(2, G122.xL13_2)] noSh noSh
def G122.eL13 : LoopE := ⟨13, G122.sL13, G122.mL13, fun k vs R K => G122.L13 k (strOf (vs.getD 1 .any)) (intOf (vs.getD 2 .any)) (vs.getD 3 .any) (vs.getD 4 .any) (vs.getD 5 .any) (vs.getD 6 .any) (vs.getD 7 .any) (fun y1 y2 y3 y4 y5 y6 => K (.exit 2) (G122.xL13_2.build [.any, PV.str y1, y2, y3, y4, y5, y6]))⟩
def G122.sJ17 : Shape := ⟨[(1, .fix (CV.ptr 1 0)), (3, .str), (5, .int .i64)], [(1, (.box [.pv, .pv, .pv, .pv, .pv]))], []⟩
def G122.xJ17_n : Shape := ⟨[(1, .fix (CV.ptr 1 0)), (3, .str), (5, .int .i64)], [(1, (.box [.pv, .pv, .pv, .pv, .pv]))], []⟩
def G122.mJ17 : Exit → St → St := maskOf tyE [] noSh G122.xJ17_n
def G122.eJ17 : CutE := ⟨17, G122.sJ17, G122.mJ17, fun k vs R K => G122.J17 k (strOf (vs.getD 1 .any)) (intOf (vs.getD 2 .any)) (vs.getD 3 .any) (vs.getD 4 .any) (vs.getD 5 .any) (vs.getD 6 .any) (vs.getD 7 .any) (fun y1 y2 y3 y4 y5 y6 y7 => K (.normal) (G122.xJ17_n.build [.any, PV.str y1, PV.int .i64 y2, y3, y4, y5, y6, y7]))⟩
def G122.ls : List LoopE := [G122.eL4, G122.eL13]
def G122.cs : List CutE := [G122.eJ8, G122.eJ17]
theorem G122.tL4 (k : Nat) (vs : List PV) (R : Type) (K : Exit → St → Option R) : G122.eL4.L (k + 1) vs R K = exec tyE Tryz.f122.ntmps (G122.rho k R) (lam tyE k G122.cs G122.ls R) (loopAt G122.c 4) (G122.sL4.build vs) (loopK tyE G122.eL4 k K) := by kernel_rfl
theorem G122.tL13 (k : Nat) (vs : List PV) (R : Type) (K : Exit → St → Option R) : G122.eL13.L (k + 1) vs R K = exec tyE Tryz.f122.ntmps (G122.rho k R) (lam tyE k G122.cs G122.ls R) (loopAt G122.c 13) (G122.sL13.build vs) (loopK tyE G122.eL13 k K) := by kernel_rfl
theorem G122.tJ8 (k : Nat) (vs : List PV) (R : Type) (K : Exit → St → Option R) : G122.eJ8.J k vs R K = exec tyE Tryz.f122.ntmps (G122.rho k R) (lam tyE k G122.cs G122.ls R) (secondAt G122.c 8) (G122.sJ8.build vs) (fun x st => K x (G122.mJ8 x st)) := by kernel_rfl
theorem G122.tJ17 (k : Nat) (vs : List PV) (R : Type) (K : Exit → St → Option R) : G122.eJ17.J k vs R K = exec tyE Tryz.f122.ntmps (G122.rho k R) (lam tyE k G122.cs G122.ls R) (secondAt G122.c 17) (G122.sJ17.build vs) (fun x st => K x (G122.mJ17 x st)) := by kernel_rfl
theorem G122.tower : Tower tyE Tryz.f122.ntmps G122.c G122.rho G122.ls G122.cs := tower_of (AllL.cons ⟨by kernel_rfl, fun _ _ _ => by kernel_rfl, maskOf_weak tyE [(0, G122.xL4_0)] noSh noSh, G122.tL4⟩ (AllL.cons ⟨by kernel_rfl, fun _ _ _ => by kernel_rfl, maskOf_weak tyE [(2, G122.xL13_2)] noSh noSh, G122.tL13⟩ AllL.nil)) (AllL.cons ⟨by kernel_rfl, maskOf_weak tyE [] noSh G122.xJ8_n, G122.tJ8⟩ (AllL.cons ⟨by kernel_rfl, maskOf_weak tyE [] noSh G122.xJ17_n, G122.tJ17⟩ AllL.nil))
theorem G122.body : Tryz.f122.body = some G122.c := by kernel_rfl
theorem G122.name : (Tryz.f122.name == "runtime.NumGoroutine") = false := by kernel_rfl
theorem G122.tF (k : Nat) (vs : List PV) (R : Type) (K : GV → Option R) : G122.A (k + 1) vs R K = execPure tyE (G122.rho k R) (lam tyE k G122.cs G122.ls R) Tryz.f122 (canonArgs G122.ks 0 vs) K := by kernel_rfl
theorem G122.zero {W0 : World} : PureOk Tryz.prog tyE W0 122 (G122.G 0) := pureOk_none (enters_of Tryz.func122 G122.name (by rw [G122.body]; rfl)) (argG_none fun _ _ _ => by kernel_rfl)
theorem G122.step {W0 : World} (k : Nat) (h : ∀ j, j ≤ k → RhoAll Tryz.prog tyE tyB W0 (G122.rho j)) : PureOk Tryz.prog tyE W0 122 (G122.G (k + 1)) := G122.tower.pure tyOk Tryz.func122 G122.body G122.name h (argG_ok (G122.tF k))
theorem G122.all {W0 : World} (hW : WOk W0) (j : Nat) : RhoAll Tryz.prog tyE tyB W0 (G122.rho j) := ((G61.ok hW j).all rnil_all)
theorem G122.ok {W0 : World} (hW : WOk W0) : ∀ k, PureOk Tryz.prog tyE W0 122 (G122.G k)
  | 0 => G122.zero
  | k + 1 => G122.step k fun j _ => G122.all hW j
mutual
def G60.F {R : Type} : Nat → List PV → (List UInt8 → Option R) → Option R
  | 0, _, _ => none
  | k + 1, a1, K => G60.L3 k a1 ([] : Bytes) 0 (fun y2 => K y2)
def G60.L3 {R : Type} : Nat → List PV → List UInt8 → Int → (List UInt8 → Option R) → Option R
  | 0, _, _, _, _ => none
  | k + 1, x1, x2, x3, K0 => bif ltI x3 ((x1.length : Nat) : Int) then bif inI x3 ((x1.length : Nat) : Int) then G82.F k (PV.agg [pcell (pat x1 x3) 0, pcell (pat x1 x3) 1, pcell (pat x1 x3) 2, pcell (pat x1 x3) 3, pcell (pat x1 x3) 4]) (fun r4 => bif leN (x2.length + r4.length) LIM then G60.L3 k x1 (x2 ++ r4) (IntKind.i64.wrap (x3 + 1)) K0 else none) else none else K0 x2
def G82.F {R : Type} : Nat → PV → (List UInt8 → Option R) → Option R
  | 0, _, _ => none
  | k + 1, a1, K => bif PV.isAgg 5 a1 then bif isStr (pcell a1 0) then bif eqS (strOf (pcell a1 0)) ([116, 101, 120, 116] : Bytes) then bif (isStr (pcell a1 1) && true) then G61.F k (strOf (pcell a1 1)) (fun r2 => G122.F k (PV.agg [pcell a1 0, pcell a1 1, pcell a1 2, pcell a1 3, pcell a1 4]) (fun r3 => bif leN (r2.length + r3.length) LIM then K (r2 ++ r3) else none)) else none else G122.F k (PV.agg [pcell a1 0, pcell a1 1, pcell a1 2, pcell a1 3, pcell a1 4]) (fun r4 => bif leN (r4.length + ([91] : Bytes).length) LIM then bif (isSl 5 (pcell a1 4) && true) then G60.F k (slOf (pcell a1 4)) (fun r5 => bif leN ((r4 ++ ([91] : Bytes)).length + r5.length) LIM then bif leN (((r4 ++ ([91] : Bytes)) ++ r5).length + ([93] : Bytes).length) LIM then K (((r4 ++ ([91] : Bytes)) ++ r5) ++ ([93] : Bytes)) else none else none) else none else none) else none else none
end
def G60.ks : List AK := [.sl 5]
def G60.A (k : Nat) : List PV → Cps GV := fun vs R K => G60.F k (slOf (vs.getD 0 .any)) (fun r1 => K (GV.pv (PV.str r1)))
def G60.G (k : Nat) : PureG := argG G60.ks (G60.A k)
def G82.ks : List AK := [.pv]
def G82.A (k : Nat) : List PV → Cps GV := fun vs R K => G82.F k (vs.getD 0 .any) (fun r1 => K (GV.pv (PV.str r1)))
def G82.G (k : Nat) : PureG := argG G82.ks (G82.A k)
def G60.c : Code := Tryz.f60.body.getD .skip
def G60.rho (k : Nat) : RhoF := (rp 82 (G82.G k) rnil)
def G60.sL3 : Shape := ⟨[(0, .sl 5), (3, .str), (4, .int .i64)], [], []⟩
def G60.xL3_0 : Shape := ⟨[(3, .str)], [], []⟩
def G60.mL3 : Exit → St → St := maskOf tyE [(0, G60.xL3_0)] noSh noSh
def G60.eL3 : LoopE := ⟨3, G60.sL3, G60.mL3, fun k vs R K => G60.L3 k (slOf (vs.getD 0 .any)) (strOf (vs.getD 1 .any)) (intOf (vs.getD 2 .any)) (fun y0 => K (.exit 0) (G60.xL3_0.build [PV.str y0]))⟩
def G60.ls : List LoopE := [G60.eL3]
def G60.cs : List CutE := []
theorem G60.tL3 (k : Nat) (vs : List PV) (R : Type) (K : Exit → St → Option R) : G60.eL3.L (k + 1) vs R K = exec tyE Tryz.f60.ntmps (G60.rho k R) (lam tyE k G60.cs G60.ls R) (loopAt G60.c 3) (G60.sL3.build vs) (loopK tyE G60.eL3 k K) := by kernel_rfl
theorem G60.tower : Tower tyE Tryz.f60.ntmps G60.c G60.rho G60.ls G60.cs := tower_of (AllL.cons ⟨by kernel_rfl, fun _ _ _ => by kernel_rfl, maskOf_weak tyE [(0, G60.xL3_0)] noSh noSh, G60.tL3⟩ AllL.nil) AllL.nil
theorem G60.body : Tryz.f60.body = some G60.c := by kernel_rfl
theorem G60.name : (Tryz.f60.name == "runtime.NumGoroutine") = false := by kernel_rfl
theorem G60.tF (k : Nat) (vs : List PV) (R : Type) (K : GV → Option R) : G60.A (k + 1) vs R K = execPure tyE (G60.rho k R) (lam tyE k G60.cs G60.ls R) Tryz.f60 (canonArgs G60.ks 0 vs) K := by kernel_rfl
theorem G60.zero {W0 : World} : PureOk Tryz.prog tyE W0 60 (G60.G 0) := pureOk_none (enters_of Tryz.func60 G60.name (by rw [G60.body]; rfl)) (argG_none fun _ _ _ => by kernel_rfl)
theorem G60.step {W0 : World} (k : Nat) (h : ∀ j, j ≤ k → RhoAll Tryz.prog tyE tyB W0 (G60.rho j)) : PureOk Tryz.prog tyE W0 60 (G60.G (k + 1)) := G60.tower.pure tyOk Tryz.func60 G60.body G60.name h (argG_ok (G60.tF k))
def G82.c : Code := Tryz.f82.body.getD .skip
def G82.rho (k : Nat) : RhoF := (rp 61 (G61.G k) (rp 122 (G122.G k) (rp 60 (G60.G k) rnil)))
def G82.ls : List LoopE := []
def G82.cs : List CutE := []
theorem G82.tower : Tower tyE Tryz.f82.ntmps G82.c G82.rho G82.ls G82.cs := tower_of AllL.nil AllL.nil
theorem G82.body : Tryz.f82.body = some G82.c := by kernel_rfl
theorem G82.name : (Tryz.f82.name == "runtime.NumGoroutine") = false := by kernel_rfl
theorem G82.tF (k : Nat) (vs : List PV) (R : Type) (K : GV → Option R) : G82.A (k + 1) vs R K = execPure tyE (G82.rho k R) (lam tyE k G82.cs G82.ls R) Tryz.f82 (canonArgs G82.ks 0 vs) K := by kernel_rfl
theorem G82.zero {W0 : World} : PureOk Tryz.prog tyE W0 82 (G82.G 0) := pureOk_none (enters_of Tryz.func82 G82.name (by rw [G82.body]; rfl)) (argG_none fun _ _ _ => by kernel_rfl)
theorem G82.step {W0 : World} (k : Nat) (h : ∀ j, j ≤ k → RhoAll Tryz.prog tyE tyB W0 (G82.rho j)) : PureOk Tryz.prog tyE W0 82 (G82.G (k + 1)) := G82.tower.pure tyOk Tryz.func82 G82.body G82.name h (argG_ok (G82.tF k))
theorem G82.scc {W0 : World} (hW : WOk W0) : ∀ k, PureOk Tryz.prog tyE W0 60 (G60.G k) ∧ PureOk Tryz.prog tyE W0 82 (G82.G k) := by
  intro k
  induction k using Nat.strongRecOn with
  | _ k ih =>
    cases k with
    | zero => exact ⟨G60.zero, G82.zero⟩
    | succ k => exact ⟨G60.step k (fun j hj => ((ih j (Nat.lt_succ_of_le hj)).2.all rnil_all)), G82.step k (fun j hj => ((G61.ok hW j).all ((G122.ok hW j).all ((ih j (Nat.lt_succ_of_le hj)).1.all rnil_all))))⟩
theorem G60.ok {W0 : World} (hW : WOk W0) (k : Nat) : PureOk Tryz.prog tyE W0 60 (G60.G k) := (G82.scc hW k).1
theorem G82.ok {W0 : World} (hW : WOk W0) (k : Nat) : PureOk Tryz.prog tyE W0 82 (G82.G k) := (G82.scc hW k).2
def G123.F {R : Type} : Nat → List UInt8 → (List PV → Bool → Option R) → Option R
  | 0, _, _ => none
  | k + 1, a1, K => bif leN a1.length LIM then bif (runesOf a1).all (isInt .i32) then K (runesOf a1) (eqS (ofRunes (runesOf a1)) a1) else none else none
def G123.ks : List AK := [.str]
def G123.A (k : Nat) : List PV → Cps GV := fun vs R K => G123.F k (strOf (vs.getD 0 .any)) (fun r1 r2 => K (GV.tup [CV.p (PV.sl 1 r1), CV.p (PV.bool r2)]))
def G123.G (k : Nat) : PureG := argG G123.ks (G123.A k)
def G123.c : Code := Tryz.f123.body.getD .skip
def G123.rho (k : Nat) : RhoF := rnil
def G123.ls : List LoopE := []
def G123.cs : List CutE := []
theorem G123.tower : Tower tyE Tryz.f123.ntmps G123.c G123.rho G123.ls G123.cs := tower_of AllL.nil AllL.nil
theorem G123.body : Tryz.f123.body = some G123.c := by kernel_rfl
theorem G123.name : (Tryz.f123.name == "runtime.NumGoroutine") = false := by kernel_rfl
theorem G123.tF (k : Nat) (vs : List PV) (R : Type) (K : GV → Option R) : G123.A (k + 1) vs R K = execPure tyE (G123.rho k R) (lam tyE k G123.cs G123.ls R) Tryz.f123 (canonArgs G123.ks 0 vs) K := by kernel_rfl
theorem G123.zero {W0 : World} : PureOk Tryz.prog tyE W0 123 (G123.G 0) := pureOk_none (enters_of Tryz.func123 G123.name (by rw [G123.body]; rfl)) (argG_none fun _ _ _ => by kernel_rfl)
theorem G123.step {W0 : World} (k : Nat) (h : ∀ j, j ≤ k → RhoAll Tryz.prog tyE tyB W0 (G123.rho j)) : PureOk Tryz.prog tyE W0 123 (G123.G (k + 1)) := G123.tower.pure tyOk Tryz.func123 G123.body G123.name h (argG_ok (G123.tF k))
theorem G123.all {W0 : World} (hW : WOk W0) (j : Nat) : RhoAll Tryz.prog tyE tyB W0 (G123.rho j) := rnil_all
theorem G123.ok {W0 : World} (hW : WOk W0) : ∀ k, PureOk Tryz.prog tyE W0 123 (G123.G k)
  | 0 => G123.zero
  | k + 1 => G123.step k fun j _ => G123.all hW j
def G83.F {R : Type} : Nat → List UInt8 → (Bool → Option R) → Option R
  | 0, _, _ => none
  | k + 1, a1, K => G123.F k a1 (fun r2 r3 => K r3)
def G83.ks : List AK := [.str]
def G83.A (k : Nat) : List PV → Cps GV := fun vs R K => G83.F k (strOf (vs.getD 0 .any)) (fun r1 => K (GV.pv (PV.bool r1)))
def G83.G (k : Nat) : PureG := argG G83.ks (G83.A k)
def G83.c : Code := Tryz.f83.body.getD .skip
def G83.rho (k : Nat) : RhoF := (rp 123 (G123.G k) rnil)
def G83.ls : List LoopE := []
def G83.cs : List CutE := []
theorem G83.tower : Tower tyE Tryz.f83.ntmps G83.c G83.rho G83.ls G83.cs := tower_of AllL.nil AllL.nil
theorem G83.body : Tryz.f83.body = some G83.c := by kernel_rfl
theorem G83.name : (Tryz.f83.name == "runtime.NumGoroutine") = false := by kernel_rfl
theorem G83.tF (k : Nat) (vs : List PV) (R : Type) (K : GV → Option R) : G83.A (k + 1) vs R K = execPure tyE (G83.rho k R) (lam tyE k G83.cs G83.ls R) Tryz.f83 (canonArgs G83.ks 0 vs) K := by kernel_rfl
theorem G83.zero {W0 : World} : PureOk Tryz.prog tyE W0 83 (G83.G 0) := pureOk_none (enters_of Tryz.func83 G83.name (by rw [G83.body]; rfl)) (argG_none fun _ _ _ => by kernel_rfl)
theorem G83.step {W0 : World} (k : Nat) (h : ∀ j, j ≤ k → RhoAll Tryz.prog tyE tyB W0 (G83.rho j)) : PureOk Tryz.prog tyE W0 83 (G83.G (k + 1)) := G83.tower.pure tyOk Tryz.func83 G83.body G83.name h (argG_ok (G83.tF k))
theorem G83.all {W0 : World} (hW : WOk W0) (j : Nat) : RhoAll Tryz.prog tyE tyB W0 (G83.rho j) := ((G123.ok hW j).all rnil_all)
theorem G83.ok {W0 : World} (hW : WOk W0) : ∀ k, PureOk Tryz.prog tyE W0 83 (G83.G k)
  | 0 => G83.zero
  | k + 1 => G83.step k fun j _ => G83.all hW j
def G57.L2 {R : Type} : Nat → List UInt8 → Int → (List UInt8 → Option R) → (Bool → Option R) → Option R
  | 0, _, _, _, _ => none
  | k + 1, x1, x2, K0, Kr => bif ltI x2 ((x1.length : Nat) : Int) then bif inI x2 ((x1.length : Nat) : Int) then bif ltI ((x1.getD (Int.toNat x2) 0).toNat : Int) 97 then Kr false else bif inI x2 ((x1.length : Nat) : Int) then bif gtI ((x1.getD (Int.toNat x2) 0).toNat : Int) 122 then Kr false else G57.L2 k x1 (IntKind.i64.wrap (x2 + 1)) K0 Kr else none else none else K0 x1
def G57.F {R : Type} : Nat → List UInt8 → (Bool → Option R) → Option R
  | 0, _, _ => none
  | k + 1, a1, K => G57.L2 k a1 0 (fun y2 => bif geI ((y2.length : Nat) : Int) 1 then bif leI ((y2.length : Nat) : Int) 8 then K (!eqS y2 ([116, 101, 120, 116] : Bytes)) else K false else K false) (fun y3 => K y3)
def G57.ks : List AK := [.str]
def G57.A (k : Nat) : List PV → Cps GV := fun vs R K => G57.F k (strOf (vs.getD 0 .any)) (fun r1 => K (GV.pv (PV.bool r1)))
def G57.G (k : Nat) : PureG := argG G57.ks (G57.A k)
def G57.c : Code := Tryz.f57.body.getD .skip
def G57.rho (k : Nat) : RhoF := rnil
def G57.sL2 : Shape := ⟨[(0, .str), (3, .int .i64)], [], []⟩
def G57.xL2_0 : Shape := ⟨[(0, .str)], [], []⟩
def G57.xL2_r : Shape := ⟨[(2, .bool)], [], []⟩
def G57.mL2 : Exit → St → St := maskOf tyE [(0, G57.xL2_0)] G57.xL2_r noSh
def G57.eL2 : LoopE := ⟨2, G57.sL2, G57.mL2, fun k vs R K => G57.L2 k (strOf (vs.getD 0 .any)) (intOf (vs.getD 1 .any)) (fun y0 => K (.exit 0) (G57.xL2_0.build [PV.str y0])) (fun y0 => K (.ret) (G57.xL2_r.build [PV.bool y0]))⟩
def G57.ls : List LoopE := [G57.eL2]
def G57.cs : List CutE := []
theorem G57.tL2 (k : Nat) (vs : List PV) (R : Type) (K : Exit → St → Option R) : G57.eL2.L (k + 1) vs R K = exec tyE Tryz.f57.ntmps (G57.rho k R) (lam tyE k G57.cs G57.ls R) (loopAt G57.c 2) (G57.sL2.build vs) (loopK tyE G57.eL2 k K) := by kernel_rfl
theorem G57.tower : Tower tyE Tryz.f57.ntmps G57.c G57.rho G57.ls G57.cs := tower_of (AllL.cons ⟨by kernel_rfl, fun _ _ _ => by kernel_rfl, maskOf_weak tyE [(0, G57.xL2_0)] G57.xL2_r noSh, G57.tL2⟩ AllL.nil) AllL.nil
theorem G57.body : Tryz.f57.body = some G57.c := by kernel_rfl
theorem G57.name : (Tryz.f57.name == "runtime.NumGoroutine") = false := by kernel_rfl
theorem G57.tF (k : Nat) (vs : List PV) (R : Type) (K : GV → Option R) : G57.A (k + 1) vs R K = execPure tyE (G57.rho k R) (lam tyE k G57.cs G57.ls R) Tryz.f57 (canonArgs G57.ks 0 vs) K := by kernel_rfl
theorem G57.zero {W0 : World} : PureOk Tryz.prog tyE W0 57 (G57.G 0) := pureOk_none (enters_of Tryz.func57 G57.name (by rw [G57.body]; rfl)) (argG_none fun _ _ _ => by kernel_rfl)
theorem G57.step {W0 : World} (k : Nat) (h : ∀ j, j ≤ k → RhoAll Tryz.prog tyE tyB W0 (G57.rho j)) : PureOk Tryz.prog tyE W0 57 (G57.G (k + 1)) := G57.tower.pure tyOk Tryz.func57 G57.body G57.name h (argG_ok (G57.tF k))
theorem G57.all {W0 : World} (hW : WOk W0) (j : Nat) : RhoAll Tryz.prog tyE tyB W0 (G57.rho j) := rnil_all
theorem G57.ok {W0 : World} (hW : WOk W0) : ∀ k, PureOk Tryz.prog tyE W0 57 (G57.G k)
  | 0 => G57.zero
  | k + 1 => G57.step k fun j _ => G57.all hW j
def G84.L2 {R : Type} : Nat → List PV → Int → Option R → (Bool → Option R) → Option R
  | 0, _, _, _, _ => none
  | k + 1, x1, x2, K0, Kr => bif ltI x2 ((x1.length : Nat) : Int) then bif inI x2 ((x1.length : Nat) : Int) then bif (isStr (pcell (pat x1 x2) 0) && true) then G57.F k (strOf (pcell (pat x1 x2) 0)) (fun r3 => bif !r3 then Kr false else bif gtI x2 0 then bif inI x2 ((x1.length : Nat) : Int) then bif inI (IntKind.i64.wrap (x2 - 1)) ((x1.length : Nat) : Int) then bif isStr (pcell (pat x1 x2) 0) then bif isStr (pcell (pat x1 (IntKind.i64.wrap (x2 - 1))) 0) then bif (Op.bytesLess (strOf (pcell (pat x1 x2) 0)) (strOf (pcell (pat x1 (IntKind.i64.wrap (x2 - 1))) 0)) || eqS (strOf (pcell (pat x1 x2) 0)) (strOf (pcell (pat x1 (IntKind.i64.wrap (x2 - 1))) 0))) then Kr false else G84.L2 k x1 (IntKind.i64.wrap (x2 + 1)) K0 Kr else none else none else none else none else G84.L2 k x1 (IntKind.i64.wrap (x2 + 1)) K0 Kr) else none else none else K0
def G84.F {R : Type} : Nat → List PV → (Bool → Option R) → Option R
  | 0, _, _ => none
  | k + 1, a1, K => G84.L2 k a1 0 ( K true) (fun y2 => K y2)
def G84.ks : List AK := [.sl 1]
def G84.A (k : Nat) : List PV → Cps GV := fun vs R K => G84.F k (slOf (vs.getD 0 .any)) (fun r1 => K (GV.pv (PV.bool r1)))
def G84.G (k : Nat) : PureG := argG G84.ks (G84.A k)
def G84.c : Code := Tryz.f84.body.getD .skip
def G84.rho (k : Nat) : RhoF := (rp 57 (G57.G k) rnil)
def G84.sL2 : Shape := ⟨[(0, .sl 1), (3, .int .i64)], [], []⟩
def G84.xL2_0 : Shape := ⟨[], [], []⟩
def G84.xL2_r : Shape := ⟨[(2, .bool)], [], []⟩
def G84.mL2 : Exit → St → St := maskOf tyE [(0, G84.xL2_0)] G84.xL2_r noSh
def G84.eL2 : LoopE := ⟨2, G84.sL2, G84.mL2, fun k vs R K => G84.L2 k (slOf (vs.getD 0 .any)) (intOf (vs.getD 1 .any)) (K (.exit 0) (G84.xL2_0.build [])) (fun y0 => K (.ret) (G84.xL2_r.build [PV.bool y0]))⟩
def G84.ls : List LoopE := [G84.eL2]
def G84.cs : List CutE := []
theorem G84.tL2 (k : Nat) (vs : List PV) (R : Type) (K : Exit → St → Option R) : G84.eL2.L (k + 1) vs R K = exec tyE Tryz.f84.ntmps (G84.rho k R) (lam tyE k G84.cs G84.ls R) (loopAt G84.c 2) (G84.sL2.build vs) (loopK tyE G84.eL2 k K) := by kernel_rfl
theorem G84.tower : Tower tyE Tryz.f84.ntmps G84.c G84.rho G84.ls G84.cs := tower_of (AllL.cons ⟨by kernel_rfl, fun _ _ _ => by kernel_rfl, maskOf_weak tyE [(0, G84.xL2_0)] G84.xL2_r noSh, G84.tL2⟩ AllL.nil) AllL.nil
theorem G84.body : Tryz.f84.body = some G84.c := by kernel_rfl
theorem G84.name : (Tryz.f84.name == "runtime.NumGoroutine") = false := by kernel_rfl
theorem G84.tF (k : Nat) (vs : List PV) (R : Type) (K : GV → Option R) : G84.A (k + 1) vs R K = execPure tyE (G84.rho k R) (lam tyE k G84.cs G84.ls R) Tryz.f84 (canonArgs G84.ks 0 vs) K := by kernel_rfl
theorem G84.zero {W0 : World} : PureOk Tryz.prog tyE W0 84 (G84.G 0) := pureOk_none (enters_of Tryz.func84 G84.name (by rw [G84.body]; rfl)) (argG_none fun _ _ _ => by kernel_rfl)
theorem G84.step {W0 : World} (k : Nat) (h : ∀ j, j ≤ k → RhoAll Tryz.prog tyE tyB W0 (G84.rho j)) : PureOk Tryz.prog tyE W0 84 (G84.G (k + 1)) := G84.tower.pure tyOk Tryz.func84 G84.body G84.name h (argG_ok (G84.tF k))
theorem G84.all {W0 : World} (hW : WOk W0) (j : Nat) : RhoAll Tryz.prog tyE tyB W0 (G84.rho j) := ((G57.ok hW j).all rnil_all)
theorem G84.ok {W0 : World} (hW : WOk W0) : ∀ k, PureOk Tryz.prog tyE W0 84 (G84.G k)
  | 0 => G84.zero
  | k + 1 => G84.step k fun j _ => G84.all hW j
def G58.F {R : Type} : Nat → List UInt8 → (Bool → Option R) → Option R
  | 0, _, _ => none
  | k + 1, a1, K => bif leI ((a1.length : Nat) : Int) 40 then G83.F k a1 (fun r2 => K r2) else K false
def G58.ks : List AK := [.str]
def G58.A (k : Nat) : List PV → Cps GV := fun vs R K => G58.F k (strOf (vs.getD 0 .any)) (fun r1 => K (GV.pv (PV.bool r1)))
def G58.G (k : Nat) : PureG := argG G58.ks (G58.A k)
def G58.c : Code := Tryz.f58.body.getD .skip
def G58.rho (k : Nat) : RhoF := (rp 83 (G83.G k) rnil)
def G58.ls : List LoopE := []
def G58.cs : List CutE := []
theorem G58.tower : Tower tyE Tryz.f58.ntmps G58.c G58.rho G58.ls G58.cs := tower_of AllL.nil AllL.nil
theorem G58.body : Tryz.f58.body = some G58.c := by kernel_rfl
theorem G58.name : (Tryz.f58.name == "runtime.NumGoroutine") = false := by kernel_rfl
theorem G58.tF (k : Nat) (vs : List PV) (R : Type) (K : GV → Option R) : G58.A (k + 1) vs R K = execPure tyE (G58.rho k R) (lam tyE k G58.cs G58.ls R) Tryz.f58 (canonArgs G58.ks 0 vs) K := by kernel_rfl
theorem G58.zero {W0 : World} : PureOk Tryz.prog tyE W0 58 (G58.G 0) := pureOk_none (enters_of Tryz.func58 G58.name (by rw [G58.body]; rfl)) (argG_none fun _ _ _ => by kernel_rfl)
theorem G58.step {W0 : World} (k : Nat) (h : ∀ j, j ≤ k → RhoAll Tryz.prog tyE tyB W0 (G58.rho j)) : PureOk Tryz.prog tyE W0 58 (G58.G (k + 1)) := G58.tower.pure tyOk Tryz.func58 G58.body G58.name h (argG_ok (G58.tF k))
theorem G58.all {W0 : World} (hW : WOk W0) (j : Nat) : RhoAll Tryz.prog tyE tyB W0 (G58.rho j) := ((G83.ok hW j).all rnil_all)
theorem G58.ok {W0 : World} (hW : WOk W0) : ∀ k, PureOk Tryz.prog tyE W0 58 (G58.G k)
  | 0 => G58.zero
  | k + 1 => G58.step k fun j _ => G58.all hW j
def G56.J12 {R : Type} (k : Nat) (p_G56_L13 : Int → PV → PV → PV → PV → PV → Option R → (Bool → Option R) → Option R) (x1 : PV) (x2 : PV) (x3 : PV) (x4 : PV) (x5 : PV) (Kr : (Bool → Option R)) : Option R := p_G56_L13 0 x1 x2 x3 x4 x5 ( Kr true) (fun y6 => Kr y6)
mutual
def G56.F {R : Type} : Nat → PV → (Bool → Option R) → Option R
  | 0, _, _ => none
  | k + 1, a1, K => bif PV.isAgg 5 a1 then bif isStr (pcell a1 0) then bif eqS (strOf (pcell a1 0)) ([116, 101, 120, 116] : Bytes) then bif isStr (pcell a1 1) then bif !eqS (strOf (pcell a1 1)) ([] : Bytes) then bif (isStr (pcell a1 1) && true) then G83.F k (strOf (pcell a1 1)) (fun r2 => bif r2 then bif (isSl 1 (pcell a1 2) && true) then G84.F k (slOf (pcell a1 2)) (fun r3 => bif r3 then bif isSl 2 (pcell a1 3) then bif eqI (((slOf (pcell a1 3)).length : Nat) : Int) 0 then bif isSl 5 (pcell a1 4) then K (eqI (((slOf (pcell a1 4)).length : Nat) : Int) 0) else none else K false else none else K false) else none else K false) else none else K false else none else G56.L5 k 0 (pcell a1 0) (pcell a1 1) (pcell a1 2) (pcell a1 3) (pcell a1 4) [] (fun y4 y5 y6 y7 y8 y9 => bif (isStr y4 && true) then G57.F k (strOf y4) (fun r10 => bif !r10 then K false else bif isStr y5 then bif !eqS (strOf y5) ([] : Bytes) then K false else bif isSl 1 y6 then bif gtI (((slOf y6).length : Nat) : Int) 0 then K false else G84.F k y9 (fun r11 => bif !r11 then K false else G56.J12 k (G56.L13 k) y4 y5 y6 y7 y8 (fun y12 => K y12)) else none else none) else none) (fun y13 => K y13) else none else none
def G56.L13 {R : Type} : Nat → Int → PV → PV → PV → PV → PV → Option R → (Bool → Option R) → Option R
  | 0, _, _, _, _, _, _, _, _ => none
  | k + 1, x1, x2, x3, x4, x5, x6, K2, Kr => bif isSl 5 x6 then bif ltI x1 (((slOf x6).length : Nat) : Int) then bif isSl 5 x6 && inI x1 (((slOf x6).length : Nat) : Int) then G56.F k (PV.agg [pcell (pat (slOf x6) x1) 0, pcell (pat (slOf x6) x1) 1, pcell (pat (slOf x6) x1) 2, pcell (pat (slOf x6) x1) 3, pcell (pat (slOf x6) x1) 4]) (fun r7 => bif !r7 then Kr false else bif gtI x1 0 then bif isSl 5 x6 && inI x1 (((slOf x6).length : Nat) : Int) then bif isStr (pcell (pat (slOf x6) x1) 0) then bif eqS (strOf (pcell (pat (slOf x6) x1) 0)) ([116, 101, 120, 116] : Bytes) then bif isSl 5 x6 && inI (IntKind.i64.wrap (x1 - 1)) (((slOf x6).length : Nat) : Int) then bif isStr (pcell (pat (slOf x6) (IntKind.i64.wrap (x1 - 1))) 0) then bif eqS (strOf (pcell (pat (slOf x6) (IntKind.i64.wrap (x1 - 1))) 0)) ([116, 101, 120, 116] : Bytes) then bif isSl 5 x6 && inI x1 (((slOf x6).length : Nat) : Int) then bif isSl 5 x6 && inI (IntKind.i64.wrap (x1 - 1)) (((slOf x6).length : Nat) : Int) then bif (isSl 1 (pcell (pat (slOf x6) x1) 2) && (isSl 1 (pcell (pat (slOf x6) (IntKind.i64.wrap (x1 - 1))) 2) && true)) then G80.F k (slOf (pcell (pat (slOf x6) x1) 2)) (slOf (pcell (pat (slOf x6) (IntKind.i64.wrap (x1 - 1))) 2)) (fun r8 => bif r8 then Kr false else G56.L13 k (IntKind.i64.wrap (x1 + 1)) x2 x3 x4 x5 x6 K2 Kr) else none else none else none else G56.L13 k (IntKind.i64.wrap (x1 + 1)) x2 x3 x4 x5 x6 K2 Kr else none else none else G56.L13 k (IntKind.i64.wrap (x1 + 1)) x2 x3 x4 x5 x6 K2 Kr else none else none else G56.L13 k (IntKind.i64.wrap (x1 + 1)) x2 x3 x4 x5 x6 K2 Kr) else none else K2 else none
def G56.L5 {R : Type} : Nat → Int → PV → PV → PV → PV → PV → List PV → (PV → PV → PV → PV → PV → List PV → Option R) → (Bool → Option R) → Option R
  | 0, _, _, _, _, _, _, _, _, _ => none
  | k + 1, x1, x2, x3, x4, x5, x6, x7, K0, Kr => bif isSl 2 x5 then bif ltI x1 (((slOf x5).length : Nat) : Int) then bif isSl 2 x5 && inI x1 (((slOf x5).length : Nat) : Int) then bif (pcell (pat (slOf x5) x1) 0).isOne then bif leN (x7.length + 1) LIM then bif isSl 2 x5 && inI x1 (((slOf x5).length : Nat) : Int) then bif (isStr (pcell (pat (slOf x5) x1) 1) && true) then G58.F k (strOf (pcell (pat (slOf x5) x1) 1)) (fun r8 => bif !r8 then Kr false else G56.L5 k (IntKind.i64.wrap (x1 + 1)) x2 x3 x4 x5 x6 (x7 ++ [pcell (pat (slOf x5) x1) 0]) K0 Kr) else none else none else none else none else none else K0 x2 x3 x4 x5 x6 x7 else none
end
def G56.ks : List AK := [.pv]
def G56.A (k : Nat) : List PV → Cps GV := fun vs R K => G56.F k (vs.getD 0 .any) (fun r1 => K (GV.pv (PV.bool r1)))
def G56.G (k : Nat) : PureG := argG G56.ks (G56.A k)
def G56.c : Code := Tryz.f56.body.getD .skip
def G56.rho (k : Nat) : RhoF := (rp 83 (G83.G k) (rp 84 (G84.G k) (rp 58 (G58.G k) (rp 57 (G57.G k) (rp 56 (G56.G k) (rp 80 (G80.G k) rnil))))))
def G56.sL5 : Shape := ⟨[(1, .fix (CV.ptr 1 0)), (3, .fix (CV.orow 3)), (4, .int .i64)], [(1, (.box [.pv, .pv, .pv, .pv, .pv])), (3, (.row 9))], []⟩
def G56.xL5_0 : Shape := ⟨[(1, .fix (CV.ptr 1 0)), (3, .fix (CV.orow 3))], [(1, (.box [.pv, .pv, .pv, .pv, .pv])), (3, (.row 9))], []⟩
def G56.xL5_r : Shape := ⟨[(2, .bool)], [], []⟩
def G56.mL5 : Exit → St → St := maskOf tyE [(0, G56.xL5_0)] G56.xL5_r noSh
def G56.eL5 : LoopE := ⟨5, G56.sL5, G56.mL5, fun k vs R K => G56.L5 k (intOf (vs.getD 2 .any)) (vs.getD 3 .any) (vs.getD 4 .any) (vs.getD 5 .any) (vs.getD 6 .any) (vs.getD 7 .any) (slOf (vs.getD 8 .any)) (fun y2 y3 y4 y5 y6 y7 => K (.exit 0) (G56.xL5_0.build [.any, .any, y2, y3, y4, y5, y6, PV.sl 0 y7])) (fun y0 => K (.ret) (G56.xL5_r.build [PV.bool y0]))⟩
def G56.sJ12 : Shape := ⟨[(1, .fix (CV.ptr 1 0))], [(1, (.box [.pv, .pv, .pv, .pv, .pv]))], []⟩
def G56.xJ12_r : Shape := ⟨[(2, .bool)], [], []⟩
def G56.mJ12 : Exit → St → St := maskOf tyE [] G56.xJ12_r noSh
def G56.eJ12 : CutE := ⟨12, G56.sJ12, G56.mJ12, fun k vs R K => G56.J12 k (G56.L13 k) (vs.getD 1 .any) (vs.getD 2 .any) (vs.getD 3 .any) (vs.getD 4 .any) (vs.getD 5 .any) (fun y0 => K (.ret) (G56.xJ12_r.build [PV.bool y0]))⟩
def G56.sL13 : Shape := ⟨[(1, .fix (CV.ptr 1 0)), (5, .int .i64)], [(1, (.box [.pv, .pv, .pv, .pv, .pv]))], []⟩
def G56.xL13_2 : Shape := ⟨[], [], []⟩
def G56.xL13_r : Shape := ⟨[(2, .bool)], [], []⟩
def G56.mL13 : Exit → St → St := maskOf tyE [(2, G56.xL13_2)] G56.xL13_r noSh
def G56.eL13 : LoopE := ⟨13, G56.sL13, G56.mL13, fun k vs R K => G56.L13 k (intOf (vs.getD 1 .any)) (vs.getD 2 .any) (vs.getD 3 .any) (vs.getD 4 .any) (vs.getD 5 .any) (vs.getD 6 .any) (K (.exit 2) (G56.xL13_2.build [])) (fun y0 => K (.ret) (G56.xL13_r.build [PV.bool y0]))⟩
def G56.ls : List LoopE := [G56.eL5, G56.eL13]
def G56.cs : List CutE := [G56.eJ12]
theorem G56.tL5 (k : Nat) (vs : List PV) (R : Type) (K : Exit → St → Option R) : G56.eL5.L (k + 1) vs R K = exec tyE Tryz.f56.ntmps (G56.rho k R) (lam tyE k G56.cs G56.ls R) (loopAt G56.c 5) (G56.sL5.build vs) (loopK tyE G56.eL5 k K) := by kernel_rfl
theorem G56.tL13 (k : Nat) (vs : List PV) (R : Type) (K : Exit → St → Option R) : G56.eL13.L (k + 1) vs R K = exec tyE Tryz.f56.ntmps (G56.rho k R) (lam tyE k G56.cs G56.ls R) (loopAt G56.c 13) (G56.sL13.build vs) (loopK tyE G56.eL13 k K) := by kernel_rfl
theorem G56.tJ12 (k : Nat) (vs : List PV) (R : Type) (K : Exit → St → Option R) : G56.eJ12.J k vs R K = exec tyE Tryz.f56.ntmps (G56.rho k R) (lam tyE k G56.cs G56.ls R) (secondAt G56.c 12) (G56.sJ12.build vs) (fun x st => K x (G56.mJ12 x st)) := by kernel_rfl
theorem G56.tower : Tower tyE Tryz.f56.ntmps G56.c G56.rho G56.ls G56.cs := tower_of (AllL.cons ⟨by kernel_rfl, fun _ _ _ => by kernel_rfl, maskOf_weak tyE [(0, G56.xL5_0)] G56.xL5_r noSh, G56.tL5⟩ (AllL.cons ⟨by kernel_rfl, fun _ _ _ => by kernel_rfl, maskOf_weak tyE [(2, G56.xL13_2)] G56.xL13_r noSh, G56.tL13⟩ AllL.nil)) (AllL.cons ⟨by kernel_rfl, maskOf_weak tyE [] G56.xJ12_r noSh, G56.tJ12⟩ AllL.nil)
theorem G56.body : Tryz.f56.body = some G56.c := by kernel_rfl
theorem G56.name : (Tryz.f56.name == "runtime.NumGoroutine") = false := by kernel_rfl
theorem G56.tF (k : Nat) (vs : List PV) (R : Type) (K : GV → Option R) : G56.A (k + 1) vs R K = execPure tyE (G56.rho k R) (lam tyE k G56.cs G56.ls R) Tryz.f56 (canonArgs G56.ks 0 vs) K := by kernel_rfl
theorem G56.zero {W0 : World} : PureOk Tryz.prog tyE W0 56 (G56.G 0) := pureOk_none (enters_of Tryz.func56 G56.name (by rw [G56.body]; rfl)) (argG_none fun _ _ _ => by kernel_rfl)
theorem G56.step {W0 : World} (k : Nat) (h : ∀ j, j ≤ k → RhoAll Tryz.prog tyE tyB W0 (G56.rho j)) : PureOk Tryz.prog tyE W0 56 (G56.G (k + 1)) := G56.tower.pure tyOk Tryz.func56 G56.body G56.name h (argG_ok (G56.tF k))
theorem G56.scc {W0 : World} (hW : WOk W0) : ∀ k, PureOk Tryz.prog tyE W0 56 (G56.G k) := by
  intro k
  induction k using Nat.strongRecOn with
  | _ k ih =>
    cases k with
    | zero => exact G56.zero
    | succ k => exact G56.step k (fun j hj => ((G83.ok hW j).all ((G84.ok hW j).all ((G58.ok hW j).all ((G57.ok hW j).all ((ih j (Nat.lt_succ_of_le hj)).all ((G80.ok hW j).all rnil_all)))))))
theorem G56.ok {W0 : World} (hW : WOk W0) (k : Nat) : PureOk Tryz.prog tyE W0 56 (G56.G k) := (G56.scc hW k)
def G54.F {R : Type} : Nat → List UInt8 → (List PV → Bool → Option R) → Option R
  | 0, _, _ => none
  | k + 1, a1, K => bif leN (([120, 91] : Bytes).length + a1.length) LIM then bif leN ((([120, 91] : Bytes) ++ a1).length + ([93] : Bytes).length) LIM then G81.F k ((([120, 91] : Bytes) ++ a1) ++ ([93] : Bytes)) 0 false (fun r2 r3 r4 r5 r6 o7 o8 o9 => bif !o9 then bif eqI o8 ((((([120, 91] : Bytes) ++ a1) ++ ([93] : Bytes)).length : Nat) : Int) then G82.F k (PV.agg [PV.str r2, PV.str r3, PV.sl 1 r4, PV.sl 2 r5, PV.sl 5 r6]) (fun r10 => bif eqS r10 ((([120, 91] : Bytes) ++ a1) ++ ([93] : Bytes)) then G56.F k (PV.agg [PV.str r2, PV.str r3, PV.sl 1 r4, PV.sl 2 r5, PV.sl 5 r6]) (fun r11 => K r6 r11) else K r6 false) else K r6 false else K r6 false) else none else none
def G54.ks : List AK := [.str]
def G54.A (k : Nat) : List PV → Cps GV := fun vs R K => G54.F k (strOf (vs.getD 0 .any)) (fun r1 r2 => K (GV.tup [CV.p (PV.sl 5 r1), CV.p (PV.bool r2)]))
def G54.G (k : Nat) : PureG := argG G54.ks (G54.A k)
def G54.c : Code := Tryz.f54.body.getD .skip
def G54.rho (k : Nat) : RhoF := (rh 81 (G81.G k) (rp 82 (G82.G k) (rp 56 (G56.G k) rnil)))
def G54.ls : List LoopE := []
def G54.cs : List CutE := []
theorem G54.tower : Tower tyE Tryz.f54.ntmps G54.c G54.rho G54.ls G54.cs := tower_of AllL.nil AllL.nil
theorem G54.body : Tryz.f54.body = some G54.c := by kernel_rfl
theorem G54.name : (Tryz.f54.name == "runtime.NumGoroutine") = false := by kernel_rfl
theorem G54.tF (k : Nat) (vs : List PV) (R : Type) (K : GV → Option R) : G54.A (k + 1) vs R K = execPure tyE (G54.rho k R) (lam tyE k G54.cs G54.ls R) Tryz.f54 (canonArgs G54.ks 0 vs) K := by kernel_rfl
theorem G54.zero {W0 : World} : PureOk Tryz.prog tyE W0 54 (G54.G 0) := pureOk_none (enters_of Tryz.func54 G54.name (by rw [G54.body]; rfl)) (argG_none fun _ _ _ => by kernel_rfl)
theorem G54.step {W0 : World} (k : Nat) (h : ∀ j, j ≤ k → RhoAll Tryz.prog tyE tyB W0 (G54.rho j)) : PureOk Tryz.prog tyE W0 54 (G54.G (k + 1)) := G54.tower.pure tyOk Tryz.func54 G54.body G54.name h (argG_ok (G54.tF k))
theorem G54.all {W0 : World} (hW : WOk W0) (j : Nat) : RhoAll Tryz.prog tyE tyB W0 (G54.rho j) := ((G81.ok hW j).all ((G82.ok hW j).all ((G56.ok hW j).all rnil_all)))
theorem G54.ok {W0 : World} (hW : WOk W0) : ∀ k, PureOk Tryz.prog tyE W0 54 (G54.G k)
  | 0 => G54.zero
  | k + 1 => G54.step k fun j _ => G54.all hW j
def G31.F {R : Type} : Nat → List UInt8 → (Int → Int → Int → List PV → List UInt8 → List UInt8 → Option R) → Option R
  | 0, _, _ => none
  | k + 1, a1, K => G51.F k a1 (fun r2 r3 => G51.F k r3 (fun r4 r5 => G52.F k r4 (fun r6 => bif eqS r2 ([97, 116, 116, 114] : Bytes) then G51.F k r5 (fun r7 r8 => G53.F k r8 (fun r9 => K 97 r6 0 [] r7 r9)) else G51.F k r5 (fun r10 r11 => G52.F k r10 (fun r12 => bif eqS r2 ([114, 101, 112, 108, 97, 99, 101] : Bytes) then G54.F k r11 (fun r13 r14 => K 114 r6 r12 r13 [] []) else bif eqS r2 ([109, 97, 114, 107] : Bytes) then K 109 r6 r12 [] r11 [] else bif eqS r2 ([117, 110, 109, 97, 114, 107] : Bytes) then K 117 r6 r12 [] r11 [] else K 0 r6 r12 [] [] [])))))
def G31.ks : List AK := [.str]
def G31.A (k : Nat) : List PV → Cps GV := fun vs R K => G31.F k (strOf (vs.getD 0 .any)) (fun r1 r2 r3 r4 r5 r6 => K (GV.pv (PV.agg [PV.int .u8 r1, PV.int .i64 r2, PV.int .i64 r3, PV.sl 5 r4, PV.str r5, PV.str r6])))
def G31.G (k : Nat) : PureG := argG G31.ks (G31.A k)
def G31.c : Code := Tryz.f31.body.getD .skip
def G31.rho (k : Nat) : RhoF := (rp 51 (G51.G k) (rp 52 (G52.G k) (rp 53 (G53.G k) (rp 54 (G54.G k) rnil))))
def G31.ls : List LoopE := []
def G31.cs : List CutE := []
theorem G31.tower : Tower tyE Tryz.f31.ntmps G31.c G31.rho G31.ls G31.cs := tower_of AllL.nil AllL.nil
theorem G31.body : Tryz.f31.body = some G31.c := by kernel_rfl
theorem G31.name : (Tryz.f31.name == "runtime.NumGoroutine") = false := by kernel_rfl
theorem G31.tF (k : Nat) (vs : List PV) (R : Type) (K : GV → Option R) : G31.A (k + 1) vs R K = execPure tyE (G31.rho k R) (lam tyE k G31.cs G31.ls R) Tryz.f31 (canonArgs G31.ks 0 vs) K := by kernel_rfl
theorem G31.zero {W0 : World} : PureOk Tryz.prog tyE W0 31 (G31.G 0) := pureOk_none (enters_of Tryz.func31 G31.name (by rw [G31.body]; rfl)) (argG_none fun _ _ _ => by kernel_rfl)
theorem G31.step {W0 : World} (k : Nat) (h : ∀ j, j ≤ k → RhoAll Tryz.prog tyE tyB W0 (G31.rho j)) : PureOk Tryz.prog tyE W0 31 (G31.G (k + 1)) := G31.tower.pure tyOk Tryz.func31 G31.body G31.name h (argG_ok (G31.tF k))
theorem G31.all {W0 : World} (hW : WOk W0) (j : Nat) : RhoAll Tryz.prog tyE tyB W0 (G31.rho j) := ((G51.ok hW j).all ((G52.ok hW j).all ((G53.ok hW j).all ((G54.ok hW j).all rnil_all))))
theorem G31.ok {W0 : World} (hW : WOk W0) : ∀ k, PureOk Tryz.prog tyE W0 31 (G31.G k)
  | 0 => G31.zero
  | k + 1 => G31.step k fun j _ => G31.all hW j
def G55.J9 {R : Type} (k : Nat) (x1 : List PV) (x2 : Int) (x3 : Int) (x4 : Bool) (x5 : PV) (x6 : PV) (x7 : PV) (x8 : PV) (x9 : PV) (x10 : List PV) (K1 : (List PV → Int → List PV → Option R)) (Kn : (List PV → Int → PV → PV → PV → PV → PV → List PV → Option R)) : Option R := bif x4 then bif inI x3 ((x10.length : Nat) : Int) then bif isStr (pcell (pat x10 x3) 1) then bif isStr x6 then bif leN ((strOf (pcell (pat x10 x3) 1)).length + (strOf x6).length) LIM then bif inR 0 x3 ((x10.length : Nat) : Int) then bif leN (0 + (sub x10 0 x3).length) LIM then bif leN (([] ++ (sub x10 0 x3)).length + 1) LIM then K1 x1 x2 (([] ++ (sub x10 0 x3)) ++ [PV.agg [x5, PV.str ((strOf (pcell (pat x10 x3) 1)) ++ (strOf x6)), x7, x8, x9]]) else none else none else none else none else none else none else none else Kn x1 x2 x5 x6 x7 x8 x9 x10
def G55.J8 {R : Type} (k : Nat) (x1 : List PV) (x2 : Int) (x3 : Int) (x4 : PV) (x5 : PV) (x6 : PV) (x7 : PV) (x8 : PV) (x9 : List PV) (K1 : (List PV → Int → List PV → Option R)) (Kn : (List PV → Int → List PV → Option R)) : Option R := bif isStr x4 then bif eqS (strOf x4) ([116, 101, 120, 116] : Bytes) then bif geI x3 0 then bif inI x3 ((x9.length : Nat) : Int) then bif isStr (pcell (pat x9 x3) 0) then bif eqS (strOf (pcell (pat x9 x3) 0)) ([116, 101, 120, 116] : Bytes) then bif inI x3 ((x9.length : Nat) : Int) then bif (isSl 1 (pcell (pat x9 x3) 2) && (isSl 1 x6 && true)) then G80.F k (slOf (pcell (pat x9 x3) 2)) (slOf x6) (fun r10 => G55.J9 k x1 x2 x3 r10 x4 x5 x6 x7 x8 x9 (fun y11 y12 y13 => K1 y11 y12 y13) (fun y14 y15 y16 y17 y18 y19 y20 y21 => bif leN (y21.length + 1) LIM then Kn y14 y15 (y21 ++ [PV.agg [y16, y17, y18, y19, y20]]) else none)) else none else none else G55.J9 k x1 x2 x3 false x4 x5 x6 x7 x8 x9 (fun y22 y23 y24 => K1 y22 y23 y24) (fun y25 y26 y27 y28 y29 y30 y31 y32 => bif leN (y32.length + 1) LIM then Kn y25 y26 (y32 ++ [PV.agg [y27, y28, y29, y30, y31]]) else none) else none else none else G55.J9 k x1 x2 x3 false x4 x5 x6 x7 x8 x9 (fun y33 y34 y35 => K1 y33 y34 y35) (fun y36 y37 y38 y39 y40 y41 y42 y43 => bif leN (y43.length + 1) LIM then Kn y36 y37 (y43 ++ [PV.agg [y38, y39, y40, y41, y42]]) else none) else G55.J9 k x1 x2 x3 false x4 x5 x6 x7 x8 x9 (fun y44 y45 y46 => K1 y44 y45 y46) (fun y47 y48 y49 y50 y51 y52 y53 y54 => bif leN (y54.length + 1) LIM then Kn y47 y48 (y54 ++ [PV.agg [y49, y50, y51, y52, y53]]) else none) else none
def G55.L3 {R : Type} : Nat → List PV → Int → List PV → (List PV → Option R) → Option R
  | 0, _, _, _, _ => none
  | k + 1, x1, x2, x3, K0 => bif ltI x2 ((x1.length : Nat) : Int) then bif inI x2 ((x1.length : Nat) : Int) then bif isStr (pcell (pat x1 x2) 0) then bif eqS (strOf (pcell (pat x1 x2) 0)) ([116, 101, 120, 116] : Bytes) then bif isStr (pcell (pat x1 x2) 1) then bif eqS (strOf (pcell (pat x1 x2) 1)) ([] : Bytes) then G55.L3 k x1 (IntKind.i64.wrap (x2 + 1)) x3 K0 else G55.J8 k x1 x2 (IntKind.i64.wrap (((x3.length : Nat) : Int) - 1)) (pcell (pat x1 x2) 0) (pcell (pat x1 x2) 1) (pcell (pat x1 x2) 2) (pcell (pat x1 x2) 3) (pcell (pat x1 x2) 4) x3 (fun y4 y5 y6 => G55.L3 k y4 (IntKind.i64.wrap (y5 + 1)) y6 K0) (fun y7 y8 y9 => G55.L3 k y7 (IntKind.i64.wrap (y8 + 1)) y9 K0) else none else G55.J8 k x1 x2 (IntKind.i64.wrap (((x3.length : Nat) : Int) - 1)) (pcell (pat x1 x2) 0) (pcell (pat x1 x2) 1) (pcell (pat x1 x2) 2) (pcell (pat x1 x2) 3) (pcell (pat x1 x2) 4) x3 (fun y10 y11 y12 => G55.L3 k y10 (IntKind.i64.wrap (y11 + 1)) y12 K0) (fun y13 y14 y15 => G55.L3 k y13 (IntKind.i64.wrap (y14 + 1)) y15 K0) else none else none else K0 x3
def G55.F {R : Type} : Nat → List PV → (List PV → Option R) → Option R
  | 0, _, _ => none
  | k + 1, a1, K => G55.L3 k a1 0 [] (fun y2 => K y2)
def G55.ks : List AK := [.sl 5]
def G55.A (k : Nat) : List PV → Cps GV := fun vs R K => G55.F k (slOf (vs.getD 0 .any)) (fun r1 => K (GV.pv (PV.sl 5 r1)))
def G55.G (k : Nat) : PureG := argG G55.ks (G55.A k)
def G55.c : Code := Tryz.f55.body.getD .skip
def G55.rho (k : Nat) : RhoF := (rp 80 (G80.G k) rnil)
def G55.sL3 : Shape := ⟨[(0, .sl 5), (3, .fix (CV.orow 9000000)), (4, .int .i64)], [(9000000, (.row 54))], [.slot 3 9000000 54]⟩
def G55.xL3_0 : Shape := ⟨[(3, .fix (CV.orow 9000000))], [(9000000, (.row 54))], []⟩
def G55.mL3 : Exit → St → St := maskOf tyE [(0, G55.xL3_0)] noSh noSh
def G55.eL3 : LoopE := ⟨3, G55.sL3, G55.mL3, fun k vs R K => G55.L3 k (slOf (vs.getD 0 .any)) (intOf (vs.getD 2 .any)) (slOf (vs.getD 3 .any)) (fun y1 => K (.exit 0) (G55.xL3_0.build [.any, PV.sl 0 y1]))⟩
def G55.sJ8 : Shape := ⟨[(0, .sl 5), (3, .fix (CV.orow 9000000)), (4, .int .i64), (5, .fix (CV.ptr 5 0)), (6, .int .i64)], [(5, (.box [.pv, .pv, .pv, .pv, .pv])), (9000000, (.row 54))], [.slot 3 9000000 54]⟩
def G55.xJ8_1 : Shape := ⟨[(0, .sl 5), (3, .fix (CV.orow 62)), (4, .int .i64)], [(62, (.row 54))], []⟩
def G55.xJ8_n : Shape := ⟨[(0, .sl 5), (3, .fix (CV.orow 9000000)), (4, .int .i64)], [(9000000, (.row 54))], []⟩
def G55.mJ8 : Exit → St → St := maskOf tyE [(1, G55.xJ8_1)] noSh G55.xJ8_n
def G55.eJ8 : CutE := ⟨8, G55.sJ8, G55.mJ8, fun k vs R K => G55.J8 k (slOf (vs.getD 0 .any)) (intOf (vs.getD 2 .any)) (intOf (vs.getD 4 .any)) (vs.getD 5 .any) (vs.getD 6 .any) (vs.getD 7 .any) (vs.getD 8 .any) (vs.getD 9 .any) (slOf (vs.getD 10 .any)) (fun y0 y2 y3 => K (.exit 1) (G55.xJ8_1.build [PV.sl 5 y0, .any, PV.int .i64 y2, PV.sl 0 y3])) (fun y0 y2 y3 => K (.normal) (G55.xJ8_n.build [PV.sl 5 y0, .any, PV.int .i64 y2, PV.sl 0 y3]))⟩
def G55.sJ9 : Shape := ⟨[(0, .sl 5), (3, .fix (CV.orow 9000000)), (4, .int .i64), (5, .fix (CV.ptr 5 0)), (6, .int .i64), (52, .bool)], [(5, (.box [.pv, .pv, .pv, .pv, .pv])), (9000000, (.row 54))], [.slot 3 9000000 54]⟩
def G55.xJ9_1 : Shape := ⟨[(0, .sl 5), (3, .fix (CV.orow 62)), (4, .int .i64)], [(62, (.row 54))], []⟩
def G55.xJ9_n : Shape := ⟨[(0, .sl 5), (3, .fix (CV.orow 9000000)), (4, .int .i64), (5, .fix (CV.ptr 5 0))], [(5, (.box [.pv, .pv, .pv, .pv, .pv])), (9000000, (.row 54))], []⟩
def G55.mJ9 : Exit → St → St := maskOf tyE [(1, G55.xJ9_1)] noSh G55.xJ9_n
def G55.eJ9 : CutE := ⟨9, G55.sJ9, G55.mJ9, fun k vs R K => G55.J9 k (slOf (vs.getD 0 .any)) (intOf (vs.getD 2 .any)) (intOf (vs.getD 4 .any)) (boolOf (vs.getD 5 .any)) (vs.getD 6 .any) (vs.getD 7 .any) (vs.getD 8 .any) (vs.getD 9 .any) (vs.getD 10 .any) (slOf (vs.getD 11 .any)) (fun y0 y2 y3 => K (.exit 1) (G55.xJ9_1.build [PV.sl 5 y0, .any, PV.int .i64 y2, PV.sl 0 y3])) (fun y0 y2 y4 y5 y6 y7 y8 y9 => K (.normal) (G55.xJ9_n.build [PV.sl 5 y0, .any, PV.int .i64 y2, .any, y4, y5, y6, y7, y8, PV.sl 0 y9]))⟩
def G55.ls : List LoopE := [G55.eL3]
def G55.cs : List CutE := [G55.eJ8, G55.eJ9]
theorem G55.tL3 (k : Nat) (vs : List PV) (R : Type) (K : Exit → St → Option R) : G55.eL3.L (k + 1) vs R K = exec tyE Tryz.f55.ntmps (G55.rho k R) (lam tyE k G55.cs G55.ls R) (loopAt G55.c 3) (G55.sL3.build vs) (loopK tyE G55.eL3 k K) := by kernel_rfl
theorem G55.tJ8 (k : Nat) (vs : List PV) (R : Type) (K : Exit → St → Option R) : G55.eJ8.J k vs R K = exec tyE Tryz.f55.ntmps (G55.rho k R) (lam tyE k G55.cs G55.ls R) (secondAt G55.c 8) (G55.sJ8.build vs) (fun x st => K x (G55.mJ8 x st)) := by kernel_rfl
theorem G55.tJ9 (k : Nat) (vs : List PV) (R : Type) (K : Exit → St → Option R) : G55.eJ9.J k vs R K = exec tyE Tryz.f55.ntmps (G55.rho k R) (lam tyE k G55.cs G55.ls R) (secondAt G55.c 9) (G55.sJ9.build vs) (fun x st => K x (G55.mJ9 x st)) := by kernel_rfl
theorem G55.tower : Tower tyE Tryz.f55.ntmps G55.c G55.rho G55.ls G55.cs := tower_of (AllL.cons ⟨by kernel_rfl, fun _ _ _ => by kernel_rfl, maskOf_weak tyE [(0, G55.xL3_0)] noSh noSh, G55.tL3⟩ AllL.nil) (AllL.cons ⟨by kernel_rfl, maskOf_weak tyE [(1, G55.xJ8_1)] noSh G55.xJ8_n, G55.tJ8⟩ (AllL.cons ⟨by kernel_rfl, maskOf_weak tyE [(1, G55.xJ9_1)] noSh G55.xJ9_n, G55.tJ9⟩ AllL.nil))
theorem G55.body : Tryz.f55.body = some G55.c := by kernel_rfl
theorem G55.name : (Tryz.f55.name == "runtime.NumGoroutine") = false := by kernel_rfl
theorem G55.tF (k : Nat) (vs : List PV) (R : Type) (K : GV → Option R) : G55.A (k + 1) vs R K = execPure tyE (G55.rho k R) (lam tyE k G55.cs G55.ls R) Tryz.f55 (canonArgs G55.ks 0 vs) K := by kernel_rfl
theorem G55.zero {W0 : World} : PureOk Tryz.prog tyE W0 55 (G55.G 0) := pureOk_none (enters_of Tryz.func55 G55.name (by rw [G55.body]; rfl)) (argG_none fun _ _ _ => by kernel_rfl)
theorem G55.step {W0 : World} (k : Nat) (h : ∀ j, j ≤ k → RhoAll Tryz.prog tyE tyB W0 (G55.rho j)) : PureOk Tryz.prog tyE W0 55 (G55.G (k + 1)) := G55.tower.pure tyOk Tryz.func55 G55.body G55.name h (argG_ok (G55.tF k))
theorem G55.all {W0 : World} (hW : WOk W0) (j : Nat) : RhoAll Tryz.prog tyE tyB W0 (G55.rho j) := ((G80.ok hW j).all rnil_all)
theorem G55.ok {W0 : World} (hW : WOk W0) : ∀ k, PureOk Tryz.prog tyE W0 55 (G55.G k)
  | 0 => G55.zero
  | k + 1 => G55.step k fun j _ => G55.all hW j
end
end Go.Dip
end
