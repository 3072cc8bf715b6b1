/- Joined by program out of: Fun1. -/
import Derived.Test.YtggfjmfkcmicjaaGreatDoorDipE
import Derived.KernelRfl
set_option linter.all false
/- Printed by program: the functions of a seat, plainly, and that they are what the evaluator says. -/
section
set_option linter.unusedVariables false
set_option maxRecDepth 100000
namespace Go.Dip
open Go.Proofs
noncomputable section
def G117.F {R : Type} : Nat → List UInt8 → Bool → (List UInt8 → List UInt8 → Bool → Option R) → Option R
  | 0, _, _, _ => none
  | k + 1, h1, h2, K => lTrimLeft h1 ([97, 98, 99, 100, 101, 102, 103, 104, 105, 106, 107, 108, 109, 110, 111, 112, 113, 114, 115, 116, 117, 118, 119, 120, 121, 122] : Bytes) (fun r3 => bif inR 0 (IntKind.i64.wrap (((h1.length : Nat) : Int) - ((r3.length : Nat) : Int))) ((h1.length : Nat) : Int) then K (sub h1 0 (IntKind.i64.wrap (((h1.length : Nat) : Int) - ((r3.length : Nat) : Int)))) r3 h2 else none)
def G117.sh : Shape := ⟨[(0, .fix (CV.ptr 1000 0))], [(1000, (.box [.str, .bool]))], []⟩
def G117.A (k : Nat) : List PV → (R : Type) → (GV → List (Nat × Ob) → Option R) → Option R := fun vs R K => G117.F k (strOf (vs.getD 1 .any)) (boolOf (vs.getD 2 .any)) (fun r1 o2 o3 => K (GV.pv (PV.str r1)) [(1000, Ob.box [CV.p (PV.str o2), CV.p (PV.bool o3)])])
def G117.G (k : Nat) : HeapG := argH 1 G117.sh (G117.A k)
def G117.c : Code := Tryz.f117.body.getD .skip
def G117.rho (k : Nat) : RhoF := (rp 143 G143.G rnil)
def G117.ls : List LoopE := []
def G117.cs : List CutE := []
theorem G117.tower : Tower tyE Tryz.f117.ntmps G117.c G117.rho G117.ls G117.cs := tower_of AllL.nil AllL.nil
theorem G117.body : Tryz.f117.body = some G117.c := by kernel_rfl
theorem G117.name : (Tryz.f117.name == "runtime.NumGoroutine") = false := by kernel_rfl
theorem G117.tF (k : Nat) (vs : List PV) (R : Type) (K : GV → List (Nat × Ob) → Option R) : G117.A (k + 1) vs R K = execHeap tyE (G117.rho k R) (lam tyE k G117.cs G117.ls R) Tryz.f117 (G117.sh.asOf 1 vs) (G117.sh.hOf vs) K := by kernel_rfl
theorem G117.zero {W0 : World} : HeapGOk Tryz.prog tyE tyB W0 117 (G117.G 0) := heapOk_none (enters_of Tryz.func117 G117.name (by rw [G117.body]; rfl)) (argH_none fun _ _ _ => by kernel_rfl)
theorem G117.step {W0 : World} (k : Nat) (h : ∀ j, j ≤ k → RhoAll Tryz.prog tyE tyB W0 (G117.rho j)) : HeapGOk Tryz.prog tyE tyB W0 117 (G117.G (k + 1)) := G117.tower.heapH tyOk Tryz.func117 G117.body G117.name h (G117.tF k)
theorem G117.all {W0 : World} (hW : WOk W0) (j : Nat) : RhoAll Tryz.prog tyE tyB W0 (G117.rho j) := ((G143.ok hW).all rnil_all)
theorem G117.ok {W0 : World} (hW : WOk W0) : ∀ k, HeapGOk Tryz.prog tyE tyB W0 117 (G117.G k)
  | 0 => G117.zero
  | k + 1 => G117.step k fun j _ => G117.all hW j
def G116.L5 {R : Type} : Nat → Bool → List UInt8 → List UInt8 → List UInt8 → List UInt8 → List UInt8 → Bool → List PV → (List UInt8 → List UInt8 → List UInt8 → List UInt8 → List UInt8 → Bool → List PV → Option R) → Option R
  | 0, _, _, _, _, _, _, _, _, _ => none
  | k + 1, x1, x2, x3, x4, x5, x6, x7, x8, K0 => bif x1 then G117.F k x6 x7 (fun r9 o10 o11 => bif leN (x8.length + 1) LIM then G118.F k ([44] : Bytes) o10 o11 (fun r12 o13 o14 => G116.L5 k r12 x2 x3 x4 x5 o13 o14 (x8 ++ [PV.str r9]) K0) else none) else K0 x2 x3 x4 x5 x6 x7 x8
def G116.F {R : Type} : Nat → List UInt8 → Bool → (List UInt8 → List UInt8 → List PV → List PV → List PV → List UInt8 → Bool → Option R) → Option R
  | 0, _, _, _ => none
  | k + 1, h1, h2, K => G120.F k h1 h2 (fun r3 o4 o5 => G118.F k ([60] : Bytes) o4 o5 (fun r6 o7 o8 => bif !r6 then K ([116, 101, 120, 116] : Bytes) r3 [] [] [] o7 o8 else G116.L5 k true [] [] ([116, 101, 120, 116] : Bytes) r3 o7 o8 [] (fun y9 y10 y11 y12 y13 y14 y15 => G119.F k ([62] : Bytes) y13 y14 (fun o16 o17 => K y11 y12 y15 [] [] o16 o17))))
def G116.sh : Shape := ⟨[(0, .fix (CV.ptr 1000 0))], [(1000, (.box [.str, .bool]))], []⟩
def G116.A (k : Nat) : List PV → (R : Type) → (GV → List (Nat × Ob) → Option R) → Option R := fun vs R K => G116.F k (strOf (vs.getD 1 .any)) (boolOf (vs.getD 2 .any)) (fun r1 r2 r3 r4 r5 o6 o7 => K (GV.pv (PV.agg [PV.str r1, PV.str r2, PV.sl 1 r3, PV.sl 2 r4, PV.sl 5 r5])) [(1000, Ob.box [CV.p (PV.str o6), CV.p (PV.bool o7)])])
def G116.G (k : Nat) : HeapG := argH 1 G116.sh (G116.A k)
def G116.c : Code := Tryz.f116.body.getD .skip
def G116.rho (k : Nat) : RhoF := (rh 120 (G120.G k) (rh 118 (G118.G k) (rh 117 (G117.G k) (rh 119 (G119.G k) rnil))))
def G116.sL5 : Shape := ⟨[(0, .fix (CV.ptr 1000 0)), (2, .fix (CV.ptr 2 0)), (3, .fix (CV.ptr 3 0)), (4, .bool)], [(2, (.box [.str, .str, .fix (CV.nils 1), .fix (CV.nils 2), .fix (CV.nils 5)])), (3, (.box [.str, .str, .fix (CV.orow 9000000), .fix (CV.nils 2), .fix (CV.nils 5)])), (1000, (.box [.str, .bool])), (9000000, (.row 9))], [.cell 3 2 9000000 9]⟩
def G116.xL5_0 : Shape := ⟨[(0, .fix (CV.ptr 1000 0)), (2, .fix (CV.ptr 2 0)), (3, .fix (CV.ptr 3 0))], [(2, (.box [.str, .str, .fix (CV.nils 1), .fix (CV.nils 2), .fix (CV.nils 5)])), (3, (.box [.str, .str, .fix (CV.orow 9000000), .fix (CV.nils 2), .fix (CV.nils 5)])), (1000, (.box [.str, .bool])), (9000000, (.row 9))], []⟩
def G116.mL5 : Exit → St → St := maskOf tyE [(0, G116.xL5_0)] noSh noSh
def G116.eL5 : LoopE := ⟨5, G116.sL5, G116.mL5, fun k vs R K => G116.L5 k (boolOf (vs.getD 3 .any)) (strOf (vs.getD 4 .any)) (strOf (vs.getD 5 .any)) (strOf (vs.getD 9 .any)) (strOf (vs.getD 10 .any)) (strOf (vs.getD 14 .any)) (boolOf (vs.getD 15 .any)) (slOf (vs.getD 16 .any)) (fun y3 y4 y8 y9 y13 y14 y15 => K (.exit 0) (G116.xL5_0.build [.any, .any, .any, PV.str y3, PV.str y4, .any, .any, .any, PV.str y8, PV.str y9, .any, .any, .any, PV.str y13, PV.bool y14, PV.sl 0 y15]))⟩
def G116.ls : List LoopE := [G116.eL5]
def G116.cs : List CutE := []
theorem G116.tL5 (k : Nat) (vs : List PV) (R : Type) (K : Exit → St → Option R) : G116.eL5.L (k + 1) vs R K = exec tyE Tryz.f116.ntmps (G116.rho k R) (lam tyE k G116.cs G116.ls R) (loopAt G116.c 5) (G116.sL5.build vs) (loopK tyE G116.eL5 k K) := by kernel_rfl
theorem G116.tower : Tower tyE Tryz.f116.ntmps G116.c G116.rho G116.ls G116.cs := tower_of (AllL.cons ⟨by kernel_rfl, fun _ _ _ => by kernel_rfl, maskOf_weak tyE [(0, G116.xL5_0)] noSh noSh, G116.tL5⟩ AllL.nil) AllL.nil
theorem G116.body : Tryz.f116.body = some G116.c := by kernel_rfl
theorem G116.name : (Tryz.f116.name == "runtime.NumGoroutine") = false := by kernel_rfl
theorem G116.tF (k : Nat) (vs : List PV) (R : Type) (K : GV → List (Nat × Ob) → Option R) : G116.A (k + 1) vs R K = execHeap tyE (G116.rho k R) (lam tyE k G116.cs G116.ls R) Tryz.f116 (G116.sh.asOf 1 vs) (G116.sh.hOf vs) K := by kernel_rfl
theorem G116.zero {W0 : World} : HeapGOk Tryz.prog tyE tyB W0 116 (G116.G 0) := heapOk_none (enters_of Tryz.func116 G116.name (by rw [G116.body]; rfl)) (argH_none fun _ _ _ => by kernel_rfl)
theorem G116.step {W0 : World} (k : Nat) (h : ∀ j, j ≤ k → RhoAll Tryz.prog tyE tyB W0 (G116.rho j)) : HeapGOk Tryz.prog tyE tyB W0 116 (G116.G (k + 1)) := G116.tower.heapH tyOk Tryz.func116 G116.body G116.name h (G116.tF k)
theorem G116.all {W0 : World} (hW : WOk W0) (j : Nat) : RhoAll Tryz.prog tyE tyB W0 (G116.rho j) := ((G120.ok hW j).all ((G118.ok hW j).all ((G117.ok hW j).all ((G119.ok hW j).all rnil_all))))
theorem G116.ok {W0 : World} (hW : WOk W0) : ∀ k, HeapGOk Tryz.prog tyE tyB W0 116 (G116.G k)
  | 0 => G116.zero
  | k + 1 => G116.step k fun j _ => G116.all hW j
def G79.J12 {R : Type} (k : Nat) (p_G79_L13 : List UInt8 → List UInt8 → List UInt8 → List UInt8 → List UInt8 → Bool → List PV → List PV → (List UInt8 → List UInt8 → List UInt8 → List UInt8 → List UInt8 → Bool → List PV → List PV → Option R) → Option R) (x1 : List UInt8) (x2 : List UInt8) (x3 : List UInt8) (x4 : List UInt8) (x5 : List UInt8) (x6 : Bool) (x7 : List PV) (Kr : (List UInt8 → List UInt8 → List UInt8 → Bool → List PV → List PV → Option R)) : Option R := G119.F k ([91] : Bytes) x5 x6 (fun o8 o9 => p_G79_L13 x1 x2 x3 x4 o8 o9 x7 [] (fun y10 y11 y12 y13 y14 y15 y16 y17 => G119.F k ([93] : Bytes) y14 y15 (fun o18 o19 => Kr y12 y13 o18 o19 y16 y17)))
def G79.J14 {R : Type} (k : Nat) (p_G79_F : List UInt8 → Bool → (List UInt8 → List UInt8 → List PV → List PV → List PV → List UInt8 → Bool → Option R) → Option R) (x1 : List UInt8) (x2 : List UInt8) (x3 : List UInt8) (x4 : List UInt8) (x5 : List UInt8) (x6 : Bool) (x7 : List PV) (x8 : List PV) (Kn : (List UInt8 → List UInt8 → List UInt8 → List UInt8 → List UInt8 → Bool → List PV → List PV → Option R)) : Option R := p_G79_F x5 x6 (fun r9 r10 r11 r12 r13 o14 o15 => bif leN (x8.length + 1) LIM then Kn x1 x2 x3 x4 o14 o15 x7 (x8 ++ [PV.agg [PV.str r9, PV.str r10, PV.sl 1 r11, PV.sl 2 r12, PV.sl 5 r13]]) else none)
def G79.J8 {R : Type} (k : Nat) (x1 : List UInt8) (x2 : List UInt8) (x3 : List UInt8) (x4 : List UInt8) (x5 : List UInt8) (x6 : Bool) (x7 : List PV) (Kn : (Bool → List UInt8 → List UInt8 → List UInt8 → List UInt8 → List UInt8 → Bool → List PV → Option R)) : Option R := G117.F k x5 x6 (fun r8 o9 o10 => G119.F k ([61] : Bytes) o9 o10 (fun o11 o12 => G120.F k o11 o12 (fun r13 o14 o15 => bif leN (x7.length + 1) LIM then G118.F k ([32] : Bytes) o14 o15 (fun r16 o17 o18 => Kn r16 x1 x2 x3 x4 o17 o18 (x7 ++ [PV.agg [PV.str r8, PV.str r13]])) else none)))
mutual
def G79.F {R : Type} : Nat → List UInt8 → Bool → (List UInt8 → List UInt8 → List PV → List PV → List PV → List UInt8 → Bool → Option R) → Option R
  | 0, _, _, _ => none
  | k + 1, h1, h2, K => lHasPrefix h1 ([34] : Bytes) (fun r3 => bif r3 then G116.F k h1 h2 (fun r4 r5 r6 r7 r8 o9 o10 => K r4 r5 r6 r7 r8 o9 o10) else G117.F k h1 h2 (fun r11 o12 o13 => G118.F k ([40] : Bytes) o12 o13 (fun r14 o15 o16 => bif r14 then G79.L6 k true [] [] r11 [] o15 o16 [] (fun y17 y18 y19 y20 y21 y22 y23 => G119.F k ([41] : Bytes) y21 y22 (fun o24 o25 => G79.J12 k (G79.L13 k) y17 y18 y19 y20 o24 o25 y23 (fun y26 y27 y28 y29 y30 y31 => K y26 y27 [] y30 y31 y28 y29))) else G79.J12 k (G79.L13 k) [] [] r11 [] o15 o16 [] (fun y32 y33 y34 y35 y36 y37 => K y32 y33 [] y36 y37 y34 y35))))
def G79.L13 {R : Type} : Nat → List UInt8 → List UInt8 → List UInt8 → List UInt8 → List UInt8 → Bool → List PV → List PV → (List UInt8 → List UInt8 → List UInt8 → List UInt8 → List UInt8 → Bool → List PV → List PV → Option R) → Option R
  | 0, _, _, _, _, _, _, _, _, _ => none
  | k + 1, x1, x2, x3, x4, x5, x6, x7, x8, K2 => bif x6 then K2 x1 x2 x3 x4 x5 x6 x7 x8 else bif eqS x5 ([] : Bytes) then K2 x1 x2 x3 x4 x5 x6 x7 x8 else bif inI 0 ((x5.length : Nat) : Int) then bif eqI ((x5.getD (Int.toNat 0) 0).toNat : Int) 93 then K2 x1 x2 x3 x4 x5 x6 x7 x8 else G79.J14 k (G79.F k) x1 x2 x3 x4 x5 x6 x7 x8 (fun y9 y10 y11 y12 y13 y14 y15 y16 => G79.L13 k y9 y10 y11 y12 y13 y14 y15 y16 K2) else none
def G79.L6 {R : Type} : Nat → Bool → List UInt8 → List UInt8 → List UInt8 → List UInt8 → List UInt8 → Bool → List PV → (List UInt8 → List UInt8 → List UInt8 → List UInt8 → List UInt8 → Bool → List PV → Option R) → Option R
  | 0, _, _, _, _, _, _, _, _, _ => none
  | k + 1, x1, x2, x3, x4, x5, x6, x7, x8, K0 => bif x1 then bif !x7 then G79.J8 k x2 x3 x4 x5 x6 x7 x8 (fun y9 y10 y11 y12 y13 y14 y15 y16 => G79.L6 k y9 y10 y11 y12 y13 y14 y15 y16 K0) else K0 x2 x3 x4 x5 x6 x7 x8 else K0 x2 x3 x4 x5 x6 x7 x8
end
def G79.sh : Shape := ⟨[(0, .fix (CV.ptr 1000 0))], [(1000, (.box [.str, .bool]))], []⟩
def G79.A (k : Nat) : List PV → (R : Type) → (GV → List (Nat × Ob) → Option R) → Option R := fun vs R K => G79.F k (strOf (vs.getD 1 .any)) (boolOf (vs.getD 2 .any)) (fun r1 r2 r3 r4 r5 o6 o7 => K (GV.pv (PV.agg [PV.str r1, PV.str r2, PV.sl 1 r3, PV.sl 2 r4, PV.sl 5 r5])) [(1000, Ob.box [CV.p (PV.str o6), CV.p (PV.bool o7)])])
def G79.G (k : Nat) : HeapG := argH 1 G79.sh (G79.A k)
def G79.c : Code := Tryz.f79.body.getD .skip
def G79.rho (k : Nat) : RhoF := (rp 115 G115.G (rh 116 (G116.G k) (rh 117 (G117.G k) (rh 118 (G118.G k) (rh 119 (G119.G k) (rh 120 (G120.G k) (rh 79 (G79.G k) rnil)))))))
def G79.sL6 : Shape := ⟨[(0, .fix (CV.ptr 1000 0)), (2, .fix (CV.ptr 2 0)), (3, .fix (CV.ptr 3 0)), (4, .bool)], [(2, (.box [.str, .str, .fix (CV.nils 1), .fix (CV.nils 2), .fix (CV.nils 5)])), (3, (.box [.str, .str, .fix (CV.nils 1), .fix (CV.orow 9000000), .fix (CV.nils 5)])), (1000, (.box [.str, .bool])), (9000000, (.row 82))], [.cell 3 3 9000000 82]⟩
def G79.xL6_0 : Shape := ⟨[(0, .fix (CV.ptr 1000 0)), (2, .fix (CV.ptr 2 0)), (3, .fix (CV.ptr 3 0))], [(2, (.box [.str, .str, .fix (CV.nils 1), .fix (CV.nils 2), .fix (CV.nils 5)])), (3, (.box [.str, .str, .fix (CV.nils 1), .fix (CV.orow 9000000), .fix (CV.nils 5)])), (1000, (.box [.str, .bool])), (9000000, (.row 82))], []⟩
def G79.mL6 : Exit → St → St := maskOf tyE [(0, G79.xL6_0)] noSh noSh
def G79.eL6 : LoopE := ⟨6, G79.sL6, G79.mL6, fun k vs R K => G79.L6 k (boolOf (vs.getD 3 .any)) (strOf (vs.getD 4 .any)) (strOf (vs.getD 5 .any)) (strOf (vs.getD 9 .any)) (strOf (vs.getD 10 .any)) (strOf (vs.getD 14 .any)) (boolOf (vs.getD 15 .any)) (slOf (vs.getD 16 .any)) (fun y3 y4 y8 y9 y13 y14 y15 => K (.exit 0) (G79.xL6_0.build [.any, .any, .any, PV.str y3, PV.str y4, .any, .any, .any, PV.str y8, PV.str y9, .any, .any, .any, PV.str y13, PV.bool y14, PV.sl 0 y15]))⟩
def G79.sJ8 : Shape := ⟨[(0, .fix (CV.ptr 1000 0)), (2, .fix (CV.ptr 2 0)), (3, .fix (CV.ptr 3 0))], [(2, (.box [.str, .str, .fix (CV.nils 1), .fix (CV.nils 2), .fix (CV.nils 5)])), (3, (.box [.str, .str, .fix (CV.nils 1), .fix (CV.orow 9000000), .fix (CV.nils 5)])), (1000, (.box [.str, .bool])), (9000000, (.row 82))], [.cell 3 3 9000000 82]⟩
def G79.xJ8_n : Shape := ⟨[(0, .fix (CV.ptr 1000 0)), (2, .fix (CV.ptr 2 0)), (3, .fix (CV.ptr 3 0)), (4, .bool)], [(2, (.box [.str, .str, .fix (CV.nils 1), .fix (CV.nils 2), .fix (CV.nils 5)])), (3, (.box [.str, .str, .fix (CV.nils 1), .fix (CV.orow 9000000), .fix (CV.nils 5)])), (1000, (.box [.str, .bool])), (9000000, (.row 82))], []⟩
def G79.mJ8 : Exit → St → St := maskOf tyE [] noSh G79.xJ8_n
def G79.eJ8 : CutE := ⟨8, G79.sJ8, G79.mJ8, fun k vs R K => G79.J8 k (strOf (vs.getD 3 .any)) (strOf (vs.getD 4 .any)) (strOf (vs.getD 8 .any)) (strOf (vs.getD 9 .any)) (strOf (vs.getD 13 .any)) (boolOf (vs.getD 14 .any)) (slOf (vs.getD 15 .any)) (fun y3 y4 y5 y9 y10 y14 y15 y16 => K (.normal) (G79.xJ8_n.build [.any, .any, .any, PV.bool y3, PV.str y4, PV.str y5, .any, .any, .any, PV.str y9, PV.str y10, .any, .any, .any, PV.str y14, PV.bool y15, PV.sl 0 y16]))⟩
def G79.sJ12 : Shape := ⟨[(0, .fix (CV.ptr 1000 0)), (2, .fix (CV.ptr 2 0)), (3, .fix (CV.ptr 3 0))], [(2, (.box [.str, .str, .fix (CV.nils 1), .fix (CV.nils 2), .fix (CV.nils 5)])), (3, (.box [.str, .str, .fix (CV.nils 1), .fix (CV.orow 9000000), .fix (CV.nils 5)])), (1000, (.box [.str, .bool])), (9000000, (.row 82))], [.cell 3 3 9000000 82]⟩
def G79.xJ12_r : Shape := ⟨[(2, .fix (CV.ptr 2 0))], [(2, (.box [.str, .str, .fix (CV.nils 1), .fix (CV.orow 9000000), .fix (CV.orow 9000001)])), (1000, (.box [.str, .bool])), (9000000, (.row 82)), (9000001, (.row 54))], []⟩
def G79.mJ12 : Exit → St → St := maskOf tyE [] G79.xJ12_r noSh
def G79.eJ12 : CutE := ⟨12, G79.sJ12, G79.mJ12, fun k vs R K => G79.J12 k (G79.L13 k) (strOf (vs.getD 3 .any)) (strOf (vs.getD 4 .any)) (strOf (vs.getD 8 .any)) (strOf (vs.getD 9 .any)) (strOf (vs.getD 13 .any)) (boolOf (vs.getD 14 .any)) (slOf (vs.getD 15 .any)) (fun y1 y2 y6 y7 y8 y9 => K (.ret) (G79.xJ12_r.build [.any, PV.str y1, PV.str y2, .any, .any, .any, PV.str y6, PV.bool y7, PV.sl 0 y8, PV.sl 0 y9]))⟩
def G79.sL13 : Shape := ⟨[(0, .fix (CV.ptr 1000 0)), (2, .fix (CV.ptr 2 0)), (3, .fix (CV.ptr 3 0))], [(2, (.box [.str, .str, .fix (CV.nils 1), .fix (CV.nils 2), .fix (CV.nils 5)])), (3, (.box [.str, .str, .fix (CV.nils 1), .fix (CV.orow 9000000), .fix (CV.orow 9000001)])), (1000, (.box [.str, .bool])), (9000000, (.row 82)), (9000001, (.row 54))], [.cell 3 4 9000001 54]⟩
def G79.xL13_2 : Shape := ⟨[(0, .fix (CV.ptr 1000 0)), (2, .fix (CV.ptr 2 0)), (3, .fix (CV.ptr 3 0))], [(2, (.box [.str, .str, .fix (CV.nils 1), .fix (CV.nils 2), .fix (CV.nils 5)])), (3, (.box [.str, .str, .fix (CV.nils 1), .fix (CV.orow 9000000), .fix (CV.orow 9000001)])), (1000, (.box [.str, .bool])), (9000000, (.row 82)), (9000001, (.row 54))], []⟩
def G79.mL13 : Exit → St → St := maskOf tyE [(2, G79.xL13_2)] noSh noSh
def G79.eL13 : LoopE := ⟨13, G79.sL13, G79.mL13, fun k vs R K => G79.L13 k (strOf (vs.getD 3 .any)) (strOf (vs.getD 4 .any)) (strOf (vs.getD 8 .any)) (strOf (vs.getD 9 .any)) (strOf (vs.getD 13 .any)) (boolOf (vs.getD 14 .any)) (slOf (vs.getD 15 .any)) (slOf (vs.getD 16 .any)) (fun y3 y4 y8 y9 y13 y14 y15 y16 => K (.exit 2) (G79.xL13_2.build [.any, .any, .any, PV.str y3, PV.str y4, .any, .any, .any, PV.str y8, PV.str y9, .any, .any, .any, PV.str y13, PV.bool y14, PV.sl 0 y15, PV.sl 0 y16]))⟩
def G79.sJ14 : Shape := ⟨[(0, .fix (CV.ptr 1000 0)), (2, .fix (CV.ptr 2 0)), (3, .fix (CV.ptr 3 0))], [(2, (.box [.str, .str, .fix (CV.nils 1), .fix (CV.nils 2), .fix (CV.nils 5)])), (3, (.box [.str, .str, .fix (CV.nils 1), .fix (CV.orow 9000000), .fix (CV.orow 9000001)])), (1000, (.box [.str, .bool])), (9000000, (.row 82)), (9000001, (.row 54))], [.cell 3 4 9000001 54]⟩
def G79.xJ14_n : Shape := ⟨[(0, .fix (CV.ptr 1000 0)), (2, .fix (CV.ptr 2 0)), (3, .fix (CV.ptr 3 0))], [(2, (.box [.str, .str, .fix (CV.nils 1), .fix (CV.nils 2), .fix (CV.nils 5)])), (3, (.box [.str, .str, .fix (CV.nils 1), .fix (CV.orow 9000000), .fix (CV.orow 9000001)])), (1000, (.box [.str, .bool])), (9000000, (.row 82)), (9000001, (.row 54))], []⟩
def G79.mJ14 : Exit → St → St := maskOf tyE [] noSh G79.xJ14_n
def G79.eJ14 : CutE := ⟨14, G79.sJ14, G79.mJ14, fun k vs R K => G79.J14 k (G79.F k) (strOf (vs.getD 3 .any)) (strOf (vs.getD 4 .any)) (strOf (vs.getD 8 .any)) (strOf (vs.getD 9 .any)) (strOf (vs.getD 13 .any)) (boolOf (vs.getD 14 .any)) (slOf (vs.getD 15 .any)) (slOf (vs.getD 16 .any)) (fun y3 y4 y8 y9 y13 y14 y15 y16 => K (.normal) (G79.xJ14_n.build [.any, .any, .any, PV.str y3, PV.str y4, .any, .any, .any, PV.str y8, PV.str y9, .any, .any, .any, PV.str y13, PV.bool y14, PV.sl 0 y15, PV.sl 0 y16]))⟩
def G79.ls : List LoopE := [G79.eL6, G79.eL13]
def G79.cs : List CutE := [G79.eJ8, G79.eJ12, G79.eJ14]
theorem G79.tL6 (k : Nat) (vs : List PV) (R : Type) (K : Exit → St → Option R) : G79.eL6.L (k + 1) vs R K = exec tyE Tryz.f79.ntmps (G79.rho k R) (lam tyE k G79.cs G79.ls R) (loopAt G79.c 6) (G79.sL6.build vs) (loopK tyE G79.eL6 k K) := by kernel_rfl
theorem G79.tL13 (k : Nat) (vs : List PV) (R : Type) (K : Exit → St → Option R) : G79.eL13.L (k + 1) vs R K = exec tyE Tryz.f79.ntmps (G79.rho k R) (lam tyE k G79.cs G79.ls R) (loopAt G79.c 13) (G79.sL13.build vs) (loopK tyE G79.eL13 k K) := by kernel_rfl
theorem G79.tJ8 (k : Nat) (vs : List PV) (R : Type) (K : Exit → St → Option R) : G79.eJ8.J k vs R K = exec tyE Tryz.f79.ntmps (G79.rho k R) (lam tyE k G79.cs G79.ls R) (secondAt G79.c 8) (G79.sJ8.build vs) (fun x st => K x (G79.mJ8 x st)) := by kernel_rfl
theorem G79.tJ12 (k : Nat) (vs : List PV) (R : Type) (K : Exit → St → Option R) : G79.eJ12.J k vs R K = exec tyE Tryz.f79.ntmps (G79.rho k R) (lam tyE k G79.cs G79.ls R) (secondAt G79.c 12) (G79.sJ12.build vs) (fun x st => K x (G79.mJ12 x st)) := by kernel_rfl
theorem G79.tJ14 (k : Nat) (vs : List PV) (R : Type) (K : Exit → St → Option R) : G79.eJ14.J k vs R K = exec tyE Tryz.f79.ntmps (G79.rho k R) (lam tyE k G79.cs G79.ls R) (secondAt G79.c 14) (G79.sJ14.build vs) (fun x st => K x (G79.mJ14 x st)) := by kernel_rfl
theorem G79.tower : Tower tyE Tryz.f79.ntmps G79.c G79.rho G79.ls G79.cs := tower_of (AllL.cons ⟨by kernel_rfl, fun _ _ _ => by kernel_rfl, maskOf_weak tyE [(0, G79.xL6_0)] noSh noSh, G79.tL6⟩ (AllL.cons ⟨by kernel_rfl, fun _ _ _ => by kernel_rfl, maskOf_weak tyE [(2, G79.xL13_2)] noSh noSh, G79.tL13⟩ AllL.nil)) (AllL.cons ⟨by kernel_rfl, maskOf_weak tyE [] noSh G79.xJ8_n, G79.tJ8⟩ (AllL.cons ⟨by kernel_rfl, maskOf_weak tyE [] G79.xJ12_r noSh, G79.tJ12⟩ (AllL.cons ⟨by kernel_rfl, maskOf_weak tyE [] noSh G79.xJ14_n, G79.tJ14⟩ AllL.nil)))
theorem G79.body : Tryz.f79.body = some G79.c := by kernel_rfl
theorem G79.name : (Tryz.f79.name == "runtime.NumGoroutine") = false := by kernel_rfl
theorem G79.tF (k : Nat) (vs : List PV) (R : Type) (K : GV → List (Nat × Ob) → Option R) : G79.A (k + 1) vs R K = execHeap tyE (G79.rho k R) (lam tyE k G79.cs G79.ls R) Tryz.f79 (G79.sh.asOf 1 vs) (G79.sh.hOf vs) K := by kernel_rfl
theorem G79.zero {W0 : World} : HeapGOk Tryz.prog tyE tyB W0 79 (G79.G 0) := heapOk_none (enters_of Tryz.func79 G79.name (by rw [G79.body]; rfl)) (argH_none fun _ _ _ => by kernel_rfl)
theorem G79.step {W0 : World} (k : Nat) (h : ∀ j, j ≤ k → RhoAll Tryz.prog tyE tyB W0 (G79.rho j)) : HeapGOk Tryz.prog tyE tyB W0 79 (G79.G (k + 1)) := G79.tower.heapH tyOk Tryz.func79 G79.body G79.name h (G79.tF k)
theorem G79.scc {W0 : World} (hW : WOk W0) : ∀ k, HeapGOk Tryz.prog tyE tyB W0 79 (G79.G k) := by
  intro k
  induction k using Nat.strongRecOn with
  | _ k ih =>
    cases k with
    | zero => exact G79.zero
    | succ k => exact G79.step k (fun j hj => ((G115.ok hW).all ((G116.ok hW j).all ((G117.ok hW j).all ((G118.ok hW j).all ((G119.ok hW j).all ((G120.ok hW j).all ((ih j (Nat.lt_succ_of_le hj)).all rnil_all))))))))
theorem G79.ok {W0 : World} (hW : WOk W0) (k : Nat) : HeapGOk Tryz.prog tyE tyB W0 79 (G79.G k) := (G79.scc hW k)
def G48.J8 {R : Type} (k : Nat) (x1 : Int) (x2 : List UInt8) (x3 : List UInt8) (x4 : List UInt8) (x5 : List UInt8) (x6 : List PV) (x7 : List PV) (x8 : List PV) (Kr : (Int → List UInt8 → List UInt8 → List PV → List PV → List PV → Option R)) : Option R := bif !eqI x1 0 then Kr x1 [] [] [] [] [] else Kr 0 x4 x5 x6 x7 x8
def G48.F {R : Type} : Nat → List UInt8 → (List UInt8 → List UInt8 → List PV → List PV → List PV → Int → Option R) → Option R
  | 0, _, _ => none
  | k + 1, a1, K => G79.F k a1 false (fun r2 r3 r4 r5 r6 o7 o8 => G69.F k (PV.agg [PV.str r2, PV.str r3, PV.sl 1 r4, PV.sl 2 r5, PV.sl 5 r6]) [] (fun o9 => G36.F k (PV.agg [PV.str r2, PV.str r3, PV.sl 1 r4, PV.sl 2 r5, PV.sl 5 r6]) (fun r10 => bif o8 then K [] [] [] [] [] 2 else bif !eqS o7 ([] : Bytes) then K [] [] [] [] [] 2 else lString o9 (fun r11 o12 => bif !eqS r11 a1 then K [] [] [] [] [] 2 else bif eqI r10 2 then K [] [] [] [] [] 2 else G48.J8 k r10 [] [] r2 r3 r4 r5 r6 (fun y13 y14 y15 y16 y17 y18 => K y14 y15 y16 y17 y18 y13)))))
def G48.ks : List AK := [.str]
def G48.A (k : Nat) : List PV → Cps GV := fun vs R K => G48.F k (strOf (vs.getD 0 .any)) (fun r1 r2 r3 r4 r5 r6 => K (GV.tup [CV.p (PV.agg [PV.str r1, PV.str r2, PV.sl 1 r3, PV.sl 2 r4, PV.sl 5 r5]), CV.p (PV.int .i64 r6)]))
def G48.G (k : Nat) : PureG := argG G48.ks (G48.A k)
def G48.c : Code := Tryz.f48.body.getD .skip
def G48.rho (k : Nat) : RhoF := (rh 79 (G79.G k) (rh 69 (G69.G k) (rp 36 (G36.G k) (rh 40 G40.G rnil))))
def G48.sJ8 : Shape := ⟨[(2, .fix (CV.ptr 2 0)), (5, .fix (CV.ptr 5 0)), (7, .int .i64)], [(2, (.box [.str, .str, .fix (CV.nils 1), .fix (CV.nils 2), .fix (CV.nils 5)])), (5, (.box [.str, .str, .sl 1, .sl 2, .sl 5]))], []⟩
def G48.xJ8_r : Shape := ⟨[(2, .fix (CV.ptr 2 0)), (3, .int .i64)], [(2, (.box [.str, .str, .sl 1, .sl 2, .sl 5]))], []⟩
def G48.mJ8 : Exit → St → St := maskOf tyE [] G48.xJ8_r noSh
def G48.eJ8 : CutE := ⟨8, G48.sJ8, G48.mJ8, fun k vs R K => G48.J8 k (intOf (vs.getD 2 .any)) (strOf (vs.getD 3 .any)) (strOf (vs.getD 4 .any)) (strOf (vs.getD 8 .any)) (strOf (vs.getD 9 .any)) (slOf (vs.getD 10 .any)) (slOf (vs.getD 11 .any)) (slOf (vs.getD 12 .any)) (fun y1 y2 y3 y4 y5 y6 => K (.ret) (G48.xJ8_r.build [.any, PV.int .i64 y1, PV.str y2, PV.str y3, PV.sl 1 y4, PV.sl 2 y5, PV.sl 5 y6]))⟩
def G48.ls : List LoopE := []
def G48.cs : List CutE := [G48.eJ8]
theorem G48.tJ8 (k : Nat) (vs : List PV) (R : Type) (K : Exit → St → Option R) : G48.eJ8.J k vs R K = exec tyE Tryz.f48.ntmps (G48.rho k R) (lam tyE k G48.cs G48.ls R) (secondAt G48.c 8) (G48.sJ8.build vs) (fun x st => K x (G48.mJ8 x st)) := by kernel_rfl
theorem G48.tower : Tower tyE Tryz.f48.ntmps G48.c G48.rho G48.ls G48.cs := tower_of AllL.nil (AllL.cons ⟨by kernel_rfl, maskOf_weak tyE [] G48.xJ8_r noSh, G48.tJ8⟩ AllL.nil)
theorem G48.body : Tryz.f48.body = some G48.c := by kernel_rfl
theorem G48.name : (Tryz.f48.name == "runtime.NumGoroutine") = false := by kernel_rfl
theorem G48.tF (k : Nat) (vs : List PV) (R : Type) (K : GV → Option R) : G48.A (k + 1) vs R K = execPure tyE (G48.rho k R) (lam tyE k G48.cs G48.ls R) Tryz.f48 (canonArgs G48.ks 0 vs) K := by kernel_rfl
theorem G48.zero {W0 : World} : PureOk Tryz.prog tyE W0 48 (G48.G 0) := pureOk_none (enters_of Tryz.func48 G48.name (by rw [G48.body]; rfl)) (argG_none fun _ _ _ => by kernel_rfl)
theorem G48.step {W0 : World} (k : Nat) (h : ∀ j, j ≤ k → RhoAll Tryz.prog tyE tyB W0 (G48.rho j)) : PureOk Tryz.prog tyE W0 48 (G48.G (k + 1)) := G48.tower.pure tyOk Tryz.func48 G48.body G48.name h (argG_ok (G48.tF k))
theorem G48.all {W0 : World} (hW : WOk W0) (j : Nat) : RhoAll Tryz.prog tyE tyB W0 (G48.rho j) := ((G79.ok hW j).all ((G69.ok hW j).all ((G36.ok hW j).all ((G40.ok hW).all rnil_all))))
theorem G48.ok {W0 : World} (hW : WOk W0) : ∀ k, PureOk Tryz.prog tyE W0 48 (G48.G k)
  | 0 => G48.zero
  | k + 1 => G48.step k fun j _ => G48.all hW j
def G28.F {R : Type} : Nat → List UInt8 → (List PV → Int → Option R) → Option R
  | 0, _, _ => none
  | k + 1, a1, K => bif leN (([120, 91] : Bytes).length + a1.length) LIM then bif leN ((([120, 91] : Bytes) ++ a1).length + ([93] : Bytes).length) LIM then G48.F k ((([120, 91] : Bytes) ++ a1) ++ ([93] : Bytes)) (fun r2 r3 r4 r5 r6 r7 => K r6 r7) else none else none
def G28.ks : List AK := [.str]
def G28.A (k : Nat) : List PV → Cps GV := fun vs R K => G28.F k (strOf (vs.getD 0 .any)) (fun r1 r2 => K (GV.tup [CV.p (PV.sl 5 r1), CV.p (PV.int .i64 r2)]))
def G28.G (k : Nat) : PureG := argG G28.ks (G28.A k)
def G28.c : Code := Tryz.f28.body.getD .skip
def G28.rho (k : Nat) : RhoF := (rp 48 (G48.G k) rnil)
def G28.ls : List LoopE := []
def G28.cs : List CutE := []
theorem G28.tower : Tower tyE Tryz.f28.ntmps G28.c G28.rho G28.ls G28.cs := tower_of AllL.nil AllL.nil
theorem G28.body : Tryz.f28.body = some G28.c := by kernel_rfl
theorem G28.name : (Tryz.f28.name == "runtime.NumGoroutine") = false := by kernel_rfl
theorem G28.tF (k : Nat) (vs : List PV) (R : Type) (K : GV → Option R) : G28.A (k + 1) vs R K = execPure tyE (G28.rho k R) (lam tyE k G28.cs G28.ls R) Tryz.f28 (canonArgs G28.ks 0 vs) K := by kernel_rfl
theorem G28.zero {W0 : World} : PureOk Tryz.prog tyE W0 28 (G28.G 0) := pureOk_none (enters_of Tryz.func28 G28.name (by rw [G28.body]; rfl)) (argG_none fun _ _ _ => by kernel_rfl)
theorem G28.step {W0 : World} (k : Nat) (h : ∀ j, j ≤ k → RhoAll Tryz.prog tyE tyB W0 (G28.rho j)) : PureOk Tryz.prog tyE W0 28 (G28.G (k + 1)) := G28.tower.pure tyOk Tryz.func28 G28.body G28.name h (argG_ok (G28.tF k))
theorem G28.all {W0 : World} (hW : WOk W0) (j : Nat) : RhoAll Tryz.prog tyE tyB W0 (G28.rho j) := ((G48.ok hW j).all rnil_all)
theorem G28.ok {W0 : World} (hW : WOk W0) : ∀ k, PureOk Tryz.prog tyE W0 28 (G28.G k)
  | 0 => G28.zero
  | k + 1 => G28.step k fun j _ => G28.all hW j
def G29.J7 {R : Type} (k : Nat) (x1 : List UInt8) (x2 : Int) (x3 : List UInt8) (Kn : (List UInt8 → Int → List UInt8 → Option R)) : Option R := bif ltI x2 (IntKind.i64.wrap (((x1.length : Nat) : Int) - 1)) then bif inI x2 ((x1.length : Nat) : Int) then lWriteByte ((x1.getD (Int.toNat x2) 0).toNat : Int) x3 (fun r4 o5 => Kn x1 x2 o5) else none else Kn x1 x2 x3
def G29.L3 {R : Type} : Nat → List UInt8 → Int → List UInt8 → (List UInt8 → List UInt8 → Option R) → Option R
  | 0, _, _, _, _ => none
  | k + 1, x1, x2, x3, K0 => bif ltI x2 (IntKind.i64.wrap (((x1.length : Nat) : Int) - 1)) then bif inI x2 ((x1.length : Nat) : Int) then bif eqI ((x1.getD (Int.toNat x2) 0).toNat : Int) 92 then G29.J7 k x1 (IntKind.i64.wrap (x2 + 1)) x3 (fun y4 y5 y6 => G29.L3 k y4 (IntKind.i64.wrap (y5 + 1)) y6 K0) else G29.J7 k x1 x2 x3 (fun y7 y8 y9 => G29.L3 k y7 (IntKind.i64.wrap (y8 + 1)) y9 K0) else none else K0 x1 x3
def G29.F {R : Type} : Nat → List UInt8 → (List UInt8 → Bool → Option R) → Option R
  | 0, _, _ => none
  | k + 1, a1, K => G29.L3 k a1 1 [] (fun y2 y3 => lString y3 (fun r4 o5 => lString o5 (fun r6 o7 => G42.F k r6 (fun r8 => K r4 (eqS r8 y2)))))
def G29.ks : List AK := [.str]
def G29.A (k : Nat) : List PV → Cps GV := fun vs R K => G29.F k (strOf (vs.getD 0 .any)) (fun r1 r2 => K (GV.tup [CV.p (PV.str r1), CV.p (PV.bool r2)]))
def G29.G (k : Nat) : PureG := argG G29.ks (G29.A k)
def G29.c : Code := Tryz.f29.body.getD .skip
def G29.rho (k : Nat) : RhoF := (rh 49 G49.G (rh 40 G40.G (rp 42 (G42.G k) rnil)))
def G29.sL3 : Shape := ⟨[(0, .str), (4, .fix (CV.ptr 4 0)), (5, .int .i64)], [(4, .bld)], []⟩
def G29.xL3_0 : Shape := ⟨[(0, .str), (4, .fix (CV.ptr 4 0))], [(4, .bld)], []⟩
def G29.mL3 : Exit → St → St := maskOf tyE [(0, G29.xL3_0)] noSh noSh
def G29.eL3 : LoopE := ⟨3, G29.sL3, G29.mL3, fun k vs R K => G29.L3 k (strOf (vs.getD 0 .any)) (intOf (vs.getD 2 .any)) (strOf (vs.getD 3 .any)) (fun y0 y2 => K (.exit 0) (G29.xL3_0.build [PV.str y0, .any, PV.str y2]))⟩
def G29.sJ7 : Shape := ⟨[(0, .str), (4, .fix (CV.ptr 4 0)), (5, .int .i64)], [(4, .bld)], []⟩
def G29.xJ7_n : Shape := ⟨[(0, .str), (4, .fix (CV.ptr 4 0)), (5, .int .i64)], [(4, .bld)], []⟩
def G29.mJ7 : Exit → St → St := maskOf tyE [] noSh G29.xJ7_n
def G29.eJ7 : CutE := ⟨7, G29.sJ7, G29.mJ7, fun k vs R K => G29.J7 k (strOf (vs.getD 0 .any)) (intOf (vs.getD 2 .any)) (strOf (vs.getD 3 .any)) (fun y0 y2 y3 => K (.normal) (G29.xJ7_n.build [PV.str y0, .any, PV.int .i64 y2, PV.str y3]))⟩
def G29.ls : List LoopE := [G29.eL3]
def G29.cs : List CutE := [G29.eJ7]
theorem G29.tL3 (k : Nat) (vs : List PV) (R : Type) (K : Exit → St → Option R) : G29.eL3.L (k + 1) vs R K = exec tyE Tryz.f29.ntmps (G29.rho k R) (lam tyE k G29.cs G29.ls R) (loopAt G29.c 3) (G29.sL3.build vs) (loopK tyE G29.eL3 k K) := by kernel_rfl
theorem G29.tJ7 (k : Nat) (vs : List PV) (R : Type) (K : Exit → St → Option R) : G29.eJ7.J k vs R K = exec tyE Tryz.f29.ntmps (G29.rho k R) (lam tyE k G29.cs G29.ls R) (secondAt G29.c 7) (G29.sJ7.build vs) (fun x st => K x (G29.mJ7 x st)) := by kernel_rfl
theorem G29.tower : Tower tyE Tryz.f29.ntmps G29.c G29.rho G29.ls G29.cs := tower_of (AllL.cons ⟨by kernel_rfl, fun _ _ _ => by kernel_rfl, maskOf_weak tyE [(0, G29.xL3_0)] noSh noSh, G29.tL3⟩ AllL.nil) (AllL.cons ⟨by kernel_rfl, maskOf_weak tyE [] noSh G29.xJ7_n, G29.tJ7⟩ AllL.nil)
theorem G29.body : Tryz.f29.body = some G29.c := by kernel_rfl
theorem G29.name : (Tryz.f29.name == "runtime.NumGoroutine") = false := by kernel_rfl
theorem G29.tF (k : Nat) (vs : List PV) (R : Type) (K : GV → Option R) : G29.A (k + 1) vs R K = execPure tyE (G29.rho k R) (lam tyE k G29.cs G29.ls R) Tryz.f29 (canonArgs G29.ks 0 vs) K := by kernel_rfl
theorem G29.zero {W0 : World} : PureOk Tryz.prog tyE W0 29 (G29.G 0) := pureOk_none (enters_of Tryz.func29 G29.name (by rw [G29.body]; rfl)) (argG_none fun _ _ _ => by kernel_rfl)
theorem G29.step {W0 : World} (k : Nat) (h : ∀ j, j ≤ k → RhoAll Tryz.prog tyE tyB W0 (G29.rho j)) : PureOk Tryz.prog tyE W0 29 (G29.G (k + 1)) := G29.tower.pure tyOk Tryz.func29 G29.body G29.name h (argG_ok (G29.tF k))
theorem G29.all {W0 : World} (hW : WOk W0) (j : Nat) : RhoAll Tryz.prog tyE tyB W0 (G29.rho j) := ((G49.ok hW).all ((G40.ok hW).all ((G42.ok hW j).all rnil_all)))
theorem G29.ok {W0 : World} (hW : WOk W0) : ∀ k, PureOk Tryz.prog tyE W0 29 (G29.G k)
  | 0 => G29.zero
  | k + 1 => G29.step k fun j _ => G29.all hW j
def G10.J23 {R : Type} (k : Nat) (x1 : Int) (x2 : Bool) (x3 : Int) (x4 : Int) (x5 : Int) (x6 : List UInt8) (x7 : List UInt8) (x8 : Int) (x9 : Int) (x10 : Int) (x11 : List PV) (x12 : List UInt8) (x13 : List UInt8) (Kr : (Int → Int → Int → Int → List UInt8 → List UInt8 → Option R)) (Kn : (Int → Int → Int → List UInt8 → List UInt8 → Int → Int → Int → List PV → List UInt8 → List UInt8 → Option R)) : Option R := bif x2 then Kr 2 0 0 0 [] [] else bif !eqI x1 0 then Kr x1 0 0 0 [] [] else Kn x3 x4 x5 x6 x7 x8 x9 x10 x11 x12 x13
def G10.J22 {R : Type} (k : Nat) (x1 : List UInt8) (x2 : List UInt8) (x3 : Int) (x4 : Int) (x5 : Int) (x6 : Int) (x7 : List UInt8) (x8 : List UInt8) (x9 : Bool) (x10 : Int) (x11 : Int) (x12 : Int) (x13 : List PV) (x14 : List UInt8) (x15 : List UInt8) (Kr : (Int → Int → Int → Int → List PV → List UInt8 → List UInt8 → Option R)) : Option R := bif !x9 then G10.J23 k x3 true x4 x5 x6 x7 x8 x10 x11 x12 x13 x14 x15 (fun y16 y17 y18 y19 y20 y21 => Kr y16 y17 y18 y19 [] y20 y21) (fun y22 y23 y24 y25 y26 y27 y28 y29 y30 y31 y32 => Kr 0 y27 y28 y29 y30 y31 y32) else G17.F k (PV.agg [PV.int .u8 x10, PV.int .i64 x11, PV.int .i64 x12, PV.sl 5 x13, PV.str x14, PV.str x15]) (fun r33 => bif !r33 then G10.J23 k x3 true x4 x5 x6 x7 x8 x10 x11 x12 x13 x14 x15 (fun y34 y35 y36 y37 y38 y39 => Kr y34 y35 y36 y37 [] y38 y39) (fun y40 y41 y42 y43 y44 y45 y46 y47 y48 y49 y50 => Kr 0 y45 y46 y47 y48 y49 y50) else G22.F k (PV.agg [PV.int .u8 x10, PV.int .i64 x11, PV.int .i64 x12, PV.sl 5 x13, PV.str x14, PV.str x15]) x2 (fun r51 => G10.J23 k x3 (!eqS r51 x1) x4 x5 x6 x7 x8 x10 x11 x12 x13 x14 x15 (fun y52 y53 y54 y55 y56 y57 => Kr y52 y53 y54 y55 [] y56 y57) (fun y58 y59 y60 y61 y62 y63 y64 y65 y66 y67 y68 => Kr 0 y63 y64 y65 y66 y67 y68)))
def G10.F {R : Type} : Nat → List UInt8 → (Int → Int → Int → List PV → List UInt8 → List UInt8 → Int → Option R) → Option R
  | 0, _, _ => none
  | k + 1, a1, K => G23.F k a1 (fun r2 o3 => G25.F k o3 true (fun r4 o5 o6 => bif eqS r2 ([114, 101, 112, 108, 97, 99, 101] : Bytes) then G25.F k o5 o6 (fun r7 o8 o9 => G28.F k o8 (fun r10 r11 => G10.J22 k a1 o8 r11 0 0 0 [] [] o9 114 r4 r7 r10 [] [] (fun y12 y13 y14 y15 y16 y17 y18 => K y13 y14 y15 y16 y17 y18 y12))) else bif eqS r2 ([97, 116, 116, 114] : Bytes) then G23.F k o5 (fun r19 o20 => G29.F k o20 (fun r21 r22 => bif o6 then G10.J22 k a1 ([] : Bytes) 0 0 0 0 [] [] r22 97 r4 0 [] r19 r21 (fun y23 y24 y25 y26 y27 y28 y29 => K y24 y25 y26 y27 y28 y29 y23) else G10.J22 k a1 ([] : Bytes) 0 0 0 0 [] [] false 97 r4 0 [] r19 r21 (fun y30 y31 y32 y33 y34 y35 y36 => K y31 y32 y33 y34 y35 y36 y30))) else bif eqS r2 ([109, 97, 114, 107] : Bytes) then G25.F k o5 o6 (fun r37 o38 o39 => G10.J22 k a1 ([] : Bytes) 0 0 0 0 [] [] o39 109 r4 r37 [] o38 [] (fun y40 y41 y42 y43 y44 y45 y46 => K y41 y42 y43 y44 y45 y46 y40)) else bif eqS r2 ([117, 110, 109, 97, 114, 107] : Bytes) then G25.F k o5 o6 (fun r47 o48 o49 => G10.J22 k a1 ([] : Bytes) 0 0 0 0 [] [] o49 117 r4 r47 [] o48 [] (fun y50 y51 y52 y53 y54 y55 y56 => K y51 y52 y53 y54 y55 y56 y50)) else G10.J22 k a1 ([] : Bytes) 0 0 0 0 [] [] o6 0 r4 0 [] [] [] (fun y57 y58 y59 y60 y61 y62 y63 => K y58 y59 y60 y61 y62 y63 y57)))
def G10.ks : List AK := [.str]
def G10.A (k : Nat) : List PV → Cps GV := fun vs R K => G10.F k (strOf (vs.getD 0 .any)) (fun r1 r2 r3 r4 r5 r6 r7 => K (GV.tup [CV.p (PV.agg [PV.int .u8 r1, PV.int .i64 r2, PV.int .i64 r3, PV.sl 5 r4, PV.str r5, PV.str r6]), CV.p (PV.int .i64 r7)]))
def G10.G (k : Nat) : PureG := argG G10.ks (G10.A k)
def G10.c : Code := Tryz.f10.body.getD .skip
def G10.rho (k : Nat) : RhoF := (rh 23 (G23.G k) (rh 25 (G25.G k) (rp 28 (G28.G k) (rp 17 (G17.G k) (rp 22 (G22.G k) (rp 29 (G29.G k) rnil))))))
def G10.sJ22 : Shape := ⟨[(0, .str), (2, .fix (CV.ptr 2 0)), (5, .fix (CV.ptr 5 0)), (9, .fix (CV.ptr 9 0)), (10, .str), (11, .int .i64)], [(2, (.box [.int .u8, .int .i64, .int .i64, .fix (CV.nils 5), .str, .str])), (5, (.box [.bool])), (9, (.box [.int .u8, .int .i64, .int .i64, .sl 5, .str, .str]))], []⟩
def G10.xJ22_r : Shape := ⟨[(2, .fix (CV.ptr 2 0)), (3, .int .i64)], [(2, (.box [.int .u8, .int .i64, .int .i64, .sl 5, .str, .str]))], []⟩
def G10.mJ22 : Exit → St → St := maskOf tyE [] G10.xJ22_r noSh
def G10.eJ22 : CutE := ⟨22, G10.sJ22, G10.mJ22, fun k vs R K => G10.J22 k (strOf (vs.getD 0 .any)) (strOf (vs.getD 4 .any)) (intOf (vs.getD 5 .any)) (intOf (vs.getD 6 .any)) (intOf (vs.getD 7 .any)) (intOf (vs.getD 8 .any)) (strOf (vs.getD 10 .any)) (strOf (vs.getD 11 .any)) (boolOf (vs.getD 12 .any)) (intOf (vs.getD 13 .any)) (intOf (vs.getD 14 .any)) (intOf (vs.getD 15 .any)) (slOf (vs.getD 16 .any)) (strOf (vs.getD 17 .any)) (strOf (vs.getD 18 .any)) (fun y1 y2 y3 y4 y5 y6 y7 => K (.ret) (G10.xJ22_r.build [.any, PV.int .i64 y1, PV.int .u8 y2, PV.int .i64 y3, PV.int .i64 y4, PV.sl 5 y5, PV.str y6, PV.str y7]))⟩
def G10.sJ23 : Shape := ⟨[(2, .fix (CV.ptr 2 0)), (9, .fix (CV.ptr 9 0)), (11, .int .i64), (73, .bool)], [(2, (.box [.int .u8, .int .i64, .int .i64, .fix (CV.nils 5), .str, .str])), (9, (.box [.int .u8, .int .i64, .int .i64, .sl 5, .str, .str]))], []⟩
def G10.xJ23_r : Shape := ⟨[(2, .fix (CV.ptr 2 0)), (3, .int .i64)], [(2, (.box [.int .u8, .int .i64, .int .i64, .fix (CV.nils 5), .str, .str]))], []⟩
def G10.xJ23_n : Shape := ⟨[(2, .fix (CV.ptr 2 0)), (9, .fix (CV.ptr 9 0))], [(2, (.box [.int .u8, .int .i64, .int .i64, .fix (CV.nils 5), .str, .str])), (9, (.box [.int .u8, .int .i64, .int .i64, .sl 5, .str, .str]))], []⟩
def G10.mJ23 : Exit → St → St := maskOf tyE [] G10.xJ23_r G10.xJ23_n
def G10.eJ23 : CutE := ⟨23, G10.sJ23, G10.mJ23, fun k vs R K => G10.J23 k (intOf (vs.getD 2 .any)) (boolOf (vs.getD 3 .any)) (intOf (vs.getD 4 .any)) (intOf (vs.getD 5 .any)) (intOf (vs.getD 6 .any)) (strOf (vs.getD 8 .any)) (strOf (vs.getD 9 .any)) (intOf (vs.getD 10 .any)) (intOf (vs.getD 11 .any)) (intOf (vs.getD 12 .any)) (slOf (vs.getD 13 .any)) (strOf (vs.getD 14 .any)) (strOf (vs.getD 15 .any)) (fun y1 y2 y3 y4 y6 y7 => K (.ret) (G10.xJ23_r.build [.any, PV.int .i64 y1, PV.int .u8 y2, PV.int .i64 y3, PV.int .i64 y4, .any, PV.str y6, PV.str y7])) (fun y2 y3 y4 y6 y7 y8 y9 y10 y11 y12 y13 => K (.normal) (G10.xJ23_n.build [.any, .any, PV.int .u8 y2, PV.int .i64 y3, PV.int .i64 y4, .any, PV.str y6, PV.str y7, PV.int .u8 y8, PV.int .i64 y9, PV.int .i64 y10, PV.sl 5 y11, PV.str y12, PV.str y13]))⟩
def G10.ls : List LoopE := []
def G10.cs : List CutE := [G10.eJ22, G10.eJ23]
theorem G10.tJ22 (k : Nat) (vs : List PV) (R : Type) (K : Exit → St → Option R) : G10.eJ22.J k vs R K = exec tyE Tryz.f10.ntmps (G10.rho k R) (lam tyE k G10.cs G10.ls R) (secondAt G10.c 22) (G10.sJ22.build vs) (fun x st => K x (G10.mJ22 x st)) := by kernel_rfl
theorem G10.tJ23 (k : Nat) (vs : List PV) (R : Type) (K : Exit → St → Option R) : G10.eJ23.J k vs R K = exec tyE Tryz.f10.ntmps (G10.rho k R) (lam tyE k G10.cs G10.ls R) (secondAt G10.c 23) (G10.sJ23.build vs) (fun x st => K x (G10.mJ23 x st)) := by kernel_rfl
theorem G10.tower : Tower tyE Tryz.f10.ntmps G10.c G10.rho G10.ls G10.cs := tower_of AllL.nil (AllL.cons ⟨by kernel_rfl, maskOf_weak tyE [] G10.xJ22_r noSh, G10.tJ22⟩ (AllL.cons ⟨by kernel_rfl, maskOf_weak tyE [] G10.xJ23_r G10.xJ23_n, G10.tJ23⟩ AllL.nil))
theorem G10.body : Tryz.f10.body = some G10.c := by kernel_rfl
theorem G10.name : (Tryz.f10.name == "runtime.NumGoroutine") = false := by kernel_rfl
theorem G10.tF (k : Nat) (vs : List PV) (R : Type) (K : GV → Option R) : G10.A (k + 1) vs R K = execPure tyE (G10.rho k R) (lam tyE k G10.cs G10.ls R) Tryz.f10 (canonArgs G10.ks 0 vs) K := by kernel_rfl
theorem G10.zero {W0 : World} : PureOk Tryz.prog tyE W0 10 (G10.G 0) := pureOk_none (enters_of Tryz.func10 G10.name (by rw [G10.body]; rfl)) (argG_none fun _ _ _ => by kernel_rfl)
theorem G10.step {W0 : World} (k : Nat) (h : ∀ j, j ≤ k → RhoAll Tryz.prog tyE tyB W0 (G10.rho j)) : PureOk Tryz.prog tyE W0 10 (G10.G (k + 1)) := G10.tower.pure tyOk Tryz.func10 G10.body G10.name h (argG_ok (G10.tF k))
theorem G10.all {W0 : World} (hW : WOk W0) (j : Nat) : RhoAll Tryz.prog tyE tyB W0 (G10.rho j) := ((G23.ok hW j).all ((G25.ok hW j).all ((G28.ok hW j).all ((G17.ok hW j).all ((G22.ok hW j).all ((G29.ok hW j).all rnil_all))))))
theorem G10.ok {W0 : World} (hW : WOk W0) : ∀ k, PureOk Tryz.prog tyE W0 10 (G10.G k)
  | 0 => G10.zero
  | k + 1 => G10.step k fun j _ => G10.all hW j
def G80.L4 {R : Type} : Nat → List PV → List PV → Int → Option R → (Bool → Option R) → Option R
  | 0, _, _, _, _, _ => none
  | k + 1, x1, x2, x3, K0, Kr => bif ltI x3 ((x1.length : Nat) : Int) then bif inI x3 ((x1.length : Nat) : Int) then bif inI x3 ((x2.length : Nat) : Int) then bif isStr (pcell (pat x1 x3) 0) then bif isStr (pcell (pat x2 x3) 0) then bif !eqS (strOf (pcell (pat x1 x3) 0)) (strOf (pcell (pat x2 x3) 0)) then Kr false else G80.L4 k x1 x2 (IntKind.i64.wrap (x3 + 1)) K0 Kr else none else none else none else none else K0
def G80.F {R : Type} : Nat → List PV → List PV → (Bool → Option R) → Option R
  | 0, _, _, _ => none
  | k + 1, a1, a2, K => bif !eqI ((a1.length : Nat) : Int) ((a2.length : Nat) : Int) then K false else G80.L4 k a1 a2 0 ( K true) (fun y3 => K y3)
def G80.ks : List AK := [.sl 1, .sl 1]
def G80.A (k : Nat) : List PV → Cps GV := fun vs R K => G80.F k (slOf (vs.getD 0 .any)) (slOf (vs.getD 1 .any)) (fun r1 => K (GV.pv (PV.bool r1)))
def G80.G (k : Nat) : PureG := argG G80.ks (G80.A k)
def G80.c : Code := Tryz.f80.body.getD .skip
def G80.rho (k : Nat) : RhoF := rnil
def G80.sL4 : Shape := ⟨[(0, .sl 1), (1, .sl 1), (5, .int .i64)], [], []⟩
def G80.xL4_0 : Shape := ⟨[], [], []⟩
def G80.xL4_r : Shape := ⟨[(4, .bool)], [], []⟩
def G80.mL4 : Exit → St → St := maskOf tyE [(0, G80.xL4_0)] G80.xL4_r noSh
def G80.eL4 : LoopE := ⟨4, G80.sL4, G80.mL4, fun k vs R K => G80.L4 k (slOf (vs.getD 0 .any)) (slOf (vs.getD 1 .any)) (intOf (vs.getD 2 .any)) (K (.exit 0) (G80.xL4_0.build [])) (fun y0 => K (.ret) (G80.xL4_r.build [PV.bool y0]))⟩
def G80.ls : List LoopE := [G80.eL4]
def G80.cs : List CutE := []
theorem G80.tL4 (k : Nat) (vs : List PV) (R : Type) (K : Exit → St → Option R) : G80.eL4.L (k + 1) vs R K = exec tyE Tryz.f80.ntmps (G80.rho k R) (lam tyE k G80.cs G80.ls R) (loopAt G80.c 4) (G80.sL4.build vs) (loopK tyE G80.eL4 k K) := by kernel_rfl
theorem G80.tower : Tower tyE Tryz.f80.ntmps G80.c G80.rho G80.ls G80.cs := tower_of (AllL.cons ⟨by kernel_rfl, fun _ _ _ => by kernel_rfl, maskOf_weak tyE [(0, G80.xL4_0)] G80.xL4_r noSh, G80.tL4⟩ AllL.nil) AllL.nil
theorem G80.body : Tryz.f80.body = some G80.c := by kernel_rfl
theorem G80.name : (Tryz.f80.name == "runtime.NumGoroutine") = false := by kernel_rfl
theorem G80.tF (k : Nat) (vs : List PV) (R : Type) (K : GV → Option R) : G80.A (k + 1) vs R K = execPure tyE (G80.rho k R) (lam tyE k G80.cs G80.ls R) Tryz.f80 (canonArgs G80.ks 0 vs) K := by kernel_rfl
theorem G80.zero {W0 : World} : PureOk Tryz.prog tyE W0 80 (G80.G 0) := pureOk_none (enters_of Tryz.func80 G80.name (by rw [G80.body]; rfl)) (argG_none fun _ _ _ => by kernel_rfl)
theorem G80.step {W0 : World} (k : Nat) (h : ∀ j, j ≤ k → RhoAll Tryz.prog tyE tyB W0 (G80.rho j)) : PureOk Tryz.prog tyE W0 80 (G80.G (k + 1)) := G80.tower.pure tyOk Tryz.func80 G80.body G80.name h (argG_ok (G80.tF k))
theorem G80.all {W0 : World} (hW : WOk W0) (j : Nat) : RhoAll Tryz.prog tyE tyB W0 (G80.rho j) := rnil_all
theorem G80.ok {W0 : World} (hW : WOk W0) : ∀ k, PureOk Tryz.prog tyE W0 80 (G80.G k)
  | 0 => G80.zero
  | k + 1 => G80.step k fun j _ => G80.all hW j
def G50.J3 {R : Type} (k : Nat) (p_G30_F : List PV → List PV → (Bool → Option R) → Option R) (p_G50_L4 : Int → PV → PV → PV → PV → PV → PV → PV → PV → PV → PV → (PV → PV → PV → PV → PV → PV → PV → PV → PV → PV → Option R) → (Bool → Option R) → Option R) (x1 : PV) (x2 : PV) (x3 : PV) (x4 : PV) (x5 : PV) (x6 : PV) (x7 : PV) (x8 : PV) (x9 : PV) (x10 : PV) (Kr : (Bool → Option R)) : Option R := p_G50_L4 0 x1 x2 x3 x4 x5 x6 x7 x8 x9 x10 (fun y11 y12 y13 y14 y15 y16 y17 y18 y19 y20 => bif (isSl 5 y15 && (isSl 5 y20 && true)) then p_G30_F (slOf y15) (slOf y20) (fun r21 => Kr r21) else none) (fun y22 => Kr y22)
mutual
def G30.F {R : Type} : Nat → List PV → List PV → (Bool → Option R) → Option R
  | 0, _, _, _ => none
  | k + 1, a1, a2, K => bif !eqI ((a1.length : Nat) : Int) ((a2.length : Nat) : Int) then K false else G30.L4 k a1 a2 0 ( K true) (fun y3 => K y3)
def G30.L4 {R : Type} : Nat → List PV → List PV → Int → Option R → (Bool → Option R) → Option R
  | 0, _, _, _, _, _ => none
  | k + 1, x1, x2, x3, K0, Kr => bif ltI x3 ((x1.length : Nat) : Int) then bif inI x3 ((x1.length : Nat) : Int) then bif inI x3 ((x2.length : Nat) : Int) then G50.F k (PV.agg [pcell (pat x1 x3) 0, pcell (pat x1 x3) 1, pcell (pat x1 x3) 2, pcell (pat x1 x3) 3, pcell (pat x1 x3) 4]) (PV.agg [pcell (pat x2 x3) 0, pcell (pat x2 x3) 1, pcell (pat x2 x3) 2, pcell (pat x2 x3) 3, pcell (pat x2 x3) 4]) (fun r4 => bif !r4 then Kr false else G30.L4 k x1 x2 (IntKind.i64.wrap (x3 + 1)) K0 Kr) else none else none else K0
def G50.F {R : Type} : Nat → PV → PV → (Bool → Option R) → Option R
  | 0, _, _, _ => none
  | k + 1, a1, a2, K => bif PV.isAgg 5 a1 then bif PV.isAgg 5 a2 then bif isStr (pcell a1 0) then bif isStr (pcell a2 0) then bif !eqS (strOf (pcell a1 0)) (strOf (pcell a2 0)) then K false else bif isStr (pcell a1 1) then bif isStr (pcell a2 1) then bif !eqS (strOf (pcell a1 1)) (strOf (pcell a2 1)) then K false else bif (isSl 1 (pcell a1 2) && (isSl 1 (pcell a2 2) && true)) then G80.F k (slOf (pcell a1 2)) (slOf (pcell a2 2)) (fun r3 => bif !r3 then K false else bif isSl 2 (pcell a1 3) then bif isSl 2 (pcell a2 3) then bif !eqI (((slOf (pcell a1 3)).length : Nat) : Int) (((slOf (pcell a2 3)).length : Nat) : Int) then K false else G50.J3 k (G30.F k) (G50.L4 k) (pcell a1 0) (pcell a1 1) (pcell a1 2) (pcell a1 3) (pcell a1 4) (pcell a2 0) (pcell a2 1) (pcell a2 2) (pcell a2 3) (pcell a2 4) (fun y4 => K y4) else none else none) else none else none else none else none else none else none else none
def G50.L4 {R : Type} : Nat → Int → PV → PV → PV → PV → PV → PV → PV → PV → PV → PV → (PV → PV → PV → PV → PV → PV → PV → PV → PV → PV → Option R) → (Bool → Option R) → Option R
  | 0, _, _, _, _, _, _, _, _, _, _, _, _, _ => none
  | k + 1, x1, x2, x3, x4, x5, x6, x7, x8, x9, x10, x11, K0, Kr => bif isSl 2 x5 then bif ltI x1 (((slOf x5).length : Nat) : Int) then bif isSl 2 x5 && inI x1 (((slOf x5).length : Nat) : Int) then bif isSl 2 x10 && inI x1 (((slOf x10).length : Nat) : Int) then bif isStr (pcell (pat (slOf x5) x1) 0) then bif isStr (pcell (pat (slOf x10) x1) 0) then bif isStr (pcell (pat (slOf x5) x1) 1) then bif isStr (pcell (pat (slOf x10) x1) 1) then bif !(eqS (strOf (pcell (pat (slOf x5) x1) 0)) (strOf (pcell (pat (slOf x10) x1) 0)) && (eqS (strOf (pcell (pat (slOf x5) x1) 1)) (strOf (pcell (pat (slOf x10) x1) 1)) && true)) then Kr false else G50.L4 k (IntKind.i64.wrap (x1 + 1)) x2 x3 x4 x5 x6 x7 x8 x9 x10 x11 K0 Kr else none else none else none else none else none else none else K0 x2 x3 x4 x5 x6 x7 x8 x9 x10 x11 else none
end
def G30.ks : List AK := [.sl 5, .sl 5]
def G30.A (k : Nat) : List PV → Cps GV := fun vs R K => G30.F k (slOf (vs.getD 0 .any)) (slOf (vs.getD 1 .any)) (fun r1 => K (GV.pv (PV.bool r1)))
def G30.G (k : Nat) : PureG := argG G30.ks (G30.A k)
def G50.ks : List AK := [.pv, .pv]
def G50.A (k : Nat) : List PV → Cps GV := fun vs R K => G50.F k (vs.getD 0 .any) (vs.getD 1 .any) (fun r1 => K (GV.pv (PV.bool r1)))
def G50.G (k : Nat) : PureG := argG G50.ks (G50.A k)
def G30.c : Code := Tryz.f30.body.getD .skip
def G30.rho (k : Nat) : RhoF := (rp 50 (G50.G k) rnil)
def G30.sL4 : Shape := ⟨[(0, .sl 5), (1, .sl 5), (5, .int .i64)], [], []⟩
def G30.xL4_0 : Shape := ⟨[], [], []⟩
def G30.xL4_r : Shape := ⟨[(4, .bool)], [], []⟩
def G30.mL4 : Exit → St → St := maskOf tyE [(0, G30.xL4_0)] G30.xL4_r noSh
def G30.eL4 : LoopE := ⟨4, G30.sL4, G30.mL4, fun k vs R K => G30.L4 k (slOf (vs.getD 0 .any)) (slOf (vs.getD 1 .any)) (intOf (vs.getD 2 .any)) (K (.exit 0) (G30.xL4_0.build [])) (fun y0 => K (.ret) (G30.xL4_r.build [PV.bool y0]))⟩
def G30.ls : List LoopE := [G30.eL4]
def G30.cs : List CutE := []
theorem G30.tL4 (k : Nat) (vs : List PV) (R : Type) (K : Exit → St → Option R) : G30.eL4.L (k + 1) vs R K = exec tyE Tryz.f30.ntmps (G30.rho k R) (lam tyE k G30.cs G30.ls R) (loopAt G30.c 4) (G30.sL4.build vs) (loopK tyE G30.eL4 k K) := by kernel_rfl
theorem G30.tower : Tower tyE Tryz.f30.ntmps G30.c G30.rho G30.ls G30.cs := tower_of (AllL.cons ⟨by kernel_rfl, fun _ _ _ => by kernel_rfl, maskOf_weak tyE [(0, G30.xL4_0)] G30.xL4_r noSh, G30.tL4⟩ AllL.nil) AllL.nil
theorem G30.body : Tryz.f30.body = some G30.c := by kernel_rfl
theorem G30.name : (Tryz.f30.name == "runtime.NumGoroutine") = false := by kernel_rfl
theorem G30.tF (k : Nat) (vs : List PV) (R : Type) (K : GV → Option R) : G30.A (k + 1) vs R K = execPure tyE (G30.rho k R) (lam tyE k G30.cs G30.ls R) Tryz.f30 (canonArgs G30.ks 0 vs) K := by kernel_rfl
theorem G30.zero {W0 : World} : PureOk Tryz.prog tyE W0 30 (G30.G 0) := pureOk_none (enters_of Tryz.func30 G30.name (by rw [G30.body]; rfl)) (argG_none fun _ _ _ => by kernel_rfl)
theorem G30.step {W0 : World} (k : Nat) (h : ∀ j, j ≤ k → RhoAll Tryz.prog tyE tyB W0 (G30.rho j)) : PureOk Tryz.prog tyE W0 30 (G30.G (k + 1)) := G30.tower.pure tyOk Tryz.func30 G30.body G30.name h (argG_ok (G30.tF k))
def G50.c : Code := Tryz.f50.body.getD .skip
def G50.rho (k : Nat) : RhoF := (rp 80 (G80.G k) (rp 30 (G30.G k) rnil))
def G50.sJ3 : Shape := ⟨[(2, .fix (CV.ptr 2 0)), (3, .fix (CV.ptr 3 0))], [(2, (.box [.pv, .pv, .pv, .pv, .pv])), (3, (.box [.pv, .pv, .pv, .pv, .pv]))], []⟩
def G50.xJ3_r : Shape := ⟨[(4, .bool)], [], []⟩
def G50.mJ3 : Exit → St → St := maskOf tyE [] G50.xJ3_r noSh
def G50.eJ3 : CutE := ⟨3, G50.sJ3, G50.mJ3, fun k vs R K => G50.J3 k (G30.F k) (G50.L4 k) (vs.getD 2 .any) (vs.getD 3 .any) (vs.getD 4 .any) (vs.getD 5 .any) (vs.getD 6 .any) (vs.getD 7 .any) (vs.getD 8 .any) (vs.getD 9 .any) (vs.getD 10 .any) (vs.getD 11 .any) (fun y0 => K (.ret) (G50.xJ3_r.build [PV.bool y0]))⟩
def G50.sL4 : Shape := ⟨[(2, .fix (CV.ptr 2 0)), (3, .fix (CV.ptr 3 0)), (5, .int .i64)], [(2, (.box [.pv, .pv, .pv, .pv, .pv])), (3, (.box [.pv, .pv, .pv, .pv, .pv]))], []⟩
def G50.xL4_0 : Shape := ⟨[(2, .fix (CV.ptr 2 0)), (3, .fix (CV.ptr 3 0))], [(2, (.box [.pv, .pv, .pv, .pv, .pv])), (3, (.box [.pv, .pv, .pv, .pv, .pv]))], []⟩
def G50.xL4_r : Shape := ⟨[(4, .bool)], [], []⟩
def G50.mL4 : Exit → St → St := maskOf tyE [(0, G50.xL4_0)] G50.xL4_r noSh
def G50.eL4 : LoopE := ⟨4, G50.sL4, G50.mL4, fun k vs R K => G50.L4 k (intOf (vs.getD 2 .any)) (vs.getD 3 .any) (vs.getD 4 .any) (vs.getD 5 .any) (vs.getD 6 .any) (vs.getD 7 .any) (vs.getD 8 .any) (vs.getD 9 .any) (vs.getD 10 .any) (vs.getD 11 .any) (vs.getD 12 .any) (fun y2 y3 y4 y5 y6 y7 y8 y9 y10 y11 => K (.exit 0) (G50.xL4_0.build [.any, .any, y2, y3, y4, y5, y6, y7, y8, y9, y10, y11])) (fun y0 => K (.ret) (G50.xL4_r.build [PV.bool y0]))⟩
def G50.ls : List LoopE := [G50.eL4]
def G50.cs : List CutE := [G50.eJ3]
theorem G50.tL4 (k : Nat) (vs : List PV) (R : Type) (K : Exit → St → Option R) : G50.eL4.L (k + 1) vs R K = exec tyE Tryz.f50.ntmps (G50.rho k R) (lam tyE k G50.cs G50.ls R) (loopAt G50.c 4) (G50.sL4.build vs) (loopK tyE G50.eL4 k K) := by kernel_rfl
theorem G50.tJ3 (k : Nat) (vs : List PV) (R : Type) (K : Exit → St → Option R) : G50.eJ3.J k vs R K = exec tyE Tryz.f50.ntmps (G50.rho k R) (lam tyE k G50.cs G50.ls R) (secondAt G50.c 3) (G50.sJ3.build vs) (fun x st => K x (G50.mJ3 x st)) := by kernel_rfl
theorem G50.tower : Tower tyE Tryz.f50.ntmps G50.c G50.rho G50.ls G50.cs := tower_of (AllL.cons ⟨by kernel_rfl, fun _ _ _ => by kernel_rfl, maskOf_weak tyE [(0, G50.xL4_0)] G50.xL4_r noSh, G50.tL4⟩ AllL.nil) (AllL.cons ⟨by kernel_rfl, maskOf_weak tyE [] G50.xJ3_r noSh, G50.tJ3⟩ AllL.nil)
theorem G50.body : Tryz.f50.body = some G50.c := by kernel_rfl
theorem G50.name : (Tryz.f50.name == "runtime.NumGoroutine") = false := by kernel_rfl
theorem G50.tF (k : Nat) (vs : List PV) (R : Type) (K : GV → Option R) : G50.A (k + 1) vs R K = execPure tyE (G50.rho k R) (lam tyE k G50.cs G50.ls R) Tryz.f50 (canonArgs G50.ks 0 vs) K := by kernel_rfl
theorem G50.zero {W0 : World} : PureOk Tryz.prog tyE W0 50 (G50.G 0) := pureOk_none (enters_of Tryz.func50 G50.name (by rw [G50.body]; rfl)) (argG_none fun _ _ _ => by kernel_rfl)
theorem G50.step {W0 : World} (k : Nat) (h : ∀ j, j ≤ k → RhoAll Tryz.prog tyE tyB W0 (G50.rho j)) : PureOk Tryz.prog tyE W0 50 (G50.G (k + 1)) := G50.tower.pure tyOk Tryz.func50 G50.body G50.name h (argG_ok (G50.tF k))
theorem G50.scc {W0 : World} (hW : WOk W0) : ∀ k, PureOk Tryz.prog tyE W0 30 (G30.G k) ∧ PureOk Tryz.prog tyE W0 50 (G50.G k) := by
  intro k
  induction k using Nat.strongRecOn with
  | _ k ih =>
    cases k with
    | zero => exact ⟨G30.zero, G50.zero⟩
    | succ k => exact ⟨G30.step k (fun j hj => ((ih j (Nat.lt_succ_of_le hj)).2.all rnil_all)), G50.step k (fun j hj => ((G80.ok hW j).all ((ih j (Nat.lt_succ_of_le hj)).1.all rnil_all)))⟩
theorem G30.ok {W0 : World} (hW : WOk W0) (k : Nat) : PureOk Tryz.prog tyE W0 30 (G30.G k) := (G50.scc hW k).1
theorem G50.ok {W0 : World} (hW : WOk W0) (k : Nat) : PureOk Tryz.prog tyE W0 50 (G50.G k) := (G50.scc hW k).2
def G11.F {R : Type} : Nat → PV → PV → (Bool → Option R) → Option R
  | 0, _, _, _ => none
  | k + 1, a1, a2, K => bif PV.isAgg 6 a1 then bif PV.isAgg 6 a2 then bif isInt .u8 (pcell a1 0) then bif isInt .u8 (pcell a2 0) then bif eqI (intOf (pcell a1 0)) (intOf (pcell a2 0)) then bif isInt .i64 (pcell a1 1) then bif isInt .i64 (pcell a2 1) then bif eqI (intOf (pcell a1 1)) (intOf (pcell a2 1)) then bif isInt .i64 (pcell a1 2) then bif isInt .i64 (pcell a2 2) then bif eqI (intOf (pcell a1 2)) (intOf (pcell a2 2)) then bif (isSl 5 (pcell a1 3) && (isSl 5 (pcell a2 3) && true)) then G30.F k (slOf (pcell a1 3)) (slOf (pcell a2 3)) (fun r3 => bif r3 then bif isStr (pcell a1 4) then bif isStr (pcell a2 4) then bif eqS (strOf (pcell a1 4)) (strOf (pcell a2 4)) then bif isStr (pcell a1 5) then bif isStr (pcell a2 5) then K (eqS (strOf (pcell a1 5)) (strOf (pcell a2 5))) else none else none else K false else none else none else K false) else none else K false else none else none else K false else none else none else K false else none else none else none else none
def G11.ks : List AK := [.pv, .pv]
def G11.A (k : Nat) : List PV → Cps GV := fun vs R K => G11.F k (vs.getD 0 .any) (vs.getD 1 .any) (fun r1 => K (GV.pv (PV.bool r1)))
def G11.G (k : Nat) : PureG := argG G11.ks (G11.A k)
def G11.c : Code := Tryz.f11.body.getD .skip
def G11.rho (k : Nat) : RhoF := (rp 30 (G30.G k) rnil)
def G11.ls : List LoopE := []
def G11.cs : List CutE := []
theorem G11.tower : Tower tyE Tryz.f11.ntmps G11.c G11.rho G11.ls G11.cs := tower_of AllL.nil AllL.nil
theorem G11.body : Tryz.f11.body = some G11.c := by kernel_rfl
theorem G11.name : (Tryz.f11.name == "runtime.NumGoroutine") = false := by kernel_rfl
theorem G11.tF (k : Nat) (vs : List PV) (R : Type) (K : GV → Option R) : G11.A (k + 1) vs R K = execPure tyE (G11.rho k R) (lam tyE k G11.cs G11.ls R) Tryz.f11 (canonArgs G11.ks 0 vs) K := by kernel_rfl
theorem G11.zero {W0 : World} : PureOk Tryz.prog tyE W0 11 (G11.G 0) := pureOk_none (enters_of Tryz.func11 G11.name (by rw [G11.body]; rfl)) (argG_none fun _ _ _ => by kernel_rfl)
theorem G11.step {W0 : World} (k : Nat) (h : ∀ j, j ≤ k → RhoAll Tryz.prog tyE tyB W0 (G11.rho j)) : PureOk Tryz.prog tyE W0 11 (G11.G (k + 1)) := G11.tower.pure tyOk Tryz.func11 G11.body G11.name h (argG_ok (G11.tF k))
theorem G11.all {W0 : World} (hW : WOk W0) (j : Nat) : RhoAll Tryz.prog tyE tyB W0 (G11.rho j) := ((G30.ok hW j).all rnil_all)
theorem G11.ok {W0 : World} (hW : WOk W0) : ∀ k, PureOk Tryz.prog tyE W0 11 (G11.G k)
  | 0 => G11.zero
  | k + 1 => G11.step k fun j _ => G11.all hW j
def G51.L2 {R : Type} : Nat → List UInt8 → Int → (List UInt8 → Option R) → (List UInt8 → List UInt8 → Option R) → Option R
  | 0, _, _, _, _ => none
  | k + 1, x1, x2, K0, Kr => bif ltI x2 ((x1.length : Nat) : Int) then bif inI x2 ((x1.length : Nat) : Int) then bif eqI ((x1.getD (Int.toNat x2) 0).toNat : Int) 32 then bif inR 0 x2 ((x1.length : Nat) : Int) then bif inR (IntKind.i64.wrap (x2 + 1)) ((x1.length : Nat) : Int) ((x1.length : Nat) : Int) then Kr (sub x1 0 x2) (sub x1 (IntKind.i64.wrap (x2 + 1)) ((x1.length : Nat) : Int)) else none else none else G51.L2 k x1 (IntKind.i64.wrap (x2 + 1)) K0 Kr else none else K0 x1
def G51.F {R : Type} : Nat → List UInt8 → (List UInt8 → List UInt8 → Option R) → Option R
  | 0, _, _ => none
  | k + 1, a1, K => G51.L2 k a1 0 (fun y2 => K y2 ([] : Bytes)) (fun y3 y4 => K y3 y4)
def G51.ks : List AK := [.str]
def G51.A (k : Nat) : List PV → Cps GV := fun vs R K => G51.F k (strOf (vs.getD 0 .any)) (fun r1 r2 => K (GV.tup [CV.p (PV.str r1), CV.p (PV.str r2)]))
def G51.G (k : Nat) : PureG := argG G51.ks (G51.A k)
def G51.c : Code := Tryz.f51.body.getD .skip
def G51.rho (k : Nat) : RhoF := rnil
def G51.sL2 : Shape := ⟨[(0, .str), (4, .int .i64)], [], []⟩
def G51.xL2_0 : Shape := ⟨[(0, .str)], [], []⟩
def G51.xL2_r : Shape := ⟨[(2, .str), (3, .str)], [], []⟩
def G51.mL2 : Exit → St → St := maskOf tyE [(0, G51.xL2_0)] G51.xL2_r noSh
def G51.eL2 : LoopE := ⟨2, G51.sL2, G51.mL2, fun k vs R K => G51.L2 k (strOf (vs.getD 0 .any)) (intOf (vs.getD 1 .any)) (fun y0 => K (.exit 0) (G51.xL2_0.build [PV.str y0])) (fun y0 y1 => K (.ret) (G51.xL2_r.build [PV.str y0, PV.str y1]))⟩
def G51.ls : List LoopE := [G51.eL2]
def G51.cs : List CutE := []
theorem G51.tL2 (k : Nat) (vs : List PV) (R : Type) (K : Exit → St → Option R) : G51.eL2.L (k + 1) vs R K = exec tyE Tryz.f51.ntmps (G51.rho k R) (lam tyE k G51.cs G51.ls R) (loopAt G51.c 2) (G51.sL2.build vs) (loopK tyE G51.eL2 k K) := by kernel_rfl
theorem G51.tower : Tower tyE Tryz.f51.ntmps G51.c G51.rho G51.ls G51.cs := tower_of (AllL.cons ⟨by kernel_rfl, fun _ _ _ => by kernel_rfl, maskOf_weak tyE [(0, G51.xL2_0)] G51.xL2_r noSh, G51.tL2⟩ AllL.nil) AllL.nil
theorem G51.body : Tryz.f51.body = some G51.c := by kernel_rfl
theorem G51.name : (Tryz.f51.name == "runtime.NumGoroutine") = false := by kernel_rfl
theorem G51.tF (k : Nat) (vs : List PV) (R : Type) (K : GV → Option R) : G51.A (k + 1) vs R K = execPure tyE (G51.rho k R) (lam tyE k G51.cs G51.ls R) Tryz.f51 (canonArgs G51.ks 0 vs) K := by kernel_rfl
theorem G51.zero {W0 : World} : PureOk Tryz.prog tyE W0 51 (G51.G 0) := pureOk_none (enters_of Tryz.func51 G51.name (by rw [G51.body]; rfl)) (argG_none fun _ _ _ => by kernel_rfl)
theorem G51.step {W0 : World} (k : Nat) (h : ∀ j, j ≤ k → RhoAll Tryz.prog tyE tyB W0 (G51.rho j)) : PureOk Tryz.prog tyE W0 51 (G51.G (k + 1)) := G51.tower.pure tyOk Tryz.func51 G51.body G51.name h (argG_ok (G51.tF k))
theorem G51.all {W0 : World} (hW : WOk W0) (j : Nat) : RhoAll Tryz.prog tyE tyB W0 (G51.rho j) := rnil_all
theorem G51.ok {W0 : World} (hW : WOk W0) : ∀ k, PureOk Tryz.prog tyE W0 51 (G51.G k)
  | 0 => G51.zero
  | k + 1 => G51.step k fun j _ => G51.all hW j
def G52.J2 {R : Type} (k : Nat) (p_G52_F : List UInt8 → (Int → Option R) → Option R) (x1 : List UInt8) (x2 : Bool) (Kr : (Int → Option R)) (Kn : (List UInt8 → Option R)) : Option R := bif x2 then bif inR 1 ((x1.length : Nat) : Int) ((x1.length : Nat) : Int) then p_G52_F (sub x1 1 ((x1.length : Nat) : Int)) (fun r3 => Kr (IntKind.i64.wrap (0 - r3))) else none else Kn x1
def G52.J3 {R : Type} (k : Nat) (p_G52_L5 : List UInt8 → Int → Int → (Int → Option R) → Option R) (x1 : List UInt8) (Kr : (Int → Option R)) : Option R := p_G52_L5 x1 0 0 (fun y2 => Kr y2)
def G52.J7 {R : Type} (k : Nat) (x1 : List UInt8) (x2 : Int) (x3 : Int) (Kn : (List UInt8 → Int → Int → Option R)) : Option R := bif inI x3 ((x1.length : Nat) : Int) then Kn x1 (IntKind.i64.wrap ((IntKind.i64.wrap (10 * x2)) + (IntKind.i64.wrap (IntKind.u8.wrap (((x1.getD (Int.toNat x3) 0).toNat : Int) - 48))))) (IntKind.i64.wrap (x3 + 1)) else none
mutual
def G52.F {R : Type} : Nat → List UInt8 → (Int → Option R) → Option R
  | 0, _, _ => none
  | k + 1, a1, K => bif gtI ((a1.length : Nat) : Int) 1 then bif inI 0 ((a1.length : Nat) : Int) then G52.J2 k (G52.F k) a1 (eqI ((a1.getD (Int.toNat 0) 0).toNat : Int) 45) (fun y2 => K y2) (fun y3 => G52.J3 k (G52.L5 k) y3 (fun y4 => K y4)) else none else G52.J2 k (G52.F k) a1 false (fun y5 => K y5) (fun y6 => G52.J3 k (G52.L5 k) y6 (fun y7 => K y7))
def G52.L5 {R : Type} : Nat → List UInt8 → Int → Int → (Int → Option R) → Option R
  | 0, _, _, _, _ => none
  | k + 1, x1, x2, x3, K0 => bif ltI x3 ((x1.length : Nat) : Int) then bif ltI x3 9 then G52.J7 k x1 x2 x3 (fun y4 y5 y6 => G52.L5 k y4 y5 y6 K0) else K0 x2 else K0 x2
end
def G52.ks : List AK := [.str]
def G52.A (k : Nat) : List PV → Cps GV := fun vs R K => G52.F k (strOf (vs.getD 0 .any)) (fun r1 => K (GV.pv (PV.int .i64 r1)))
def G52.G (k : Nat) : PureG := argG G52.ks (G52.A k)
def G52.c : Code := Tryz.f52.body.getD .skip
def G52.rho (k : Nat) : RhoF := (rp 52 (G52.G k) rnil)
def G52.sJ2 : Shape := ⟨[(0, .str), (12, .bool)], [], []⟩
def G52.xJ2_r : Shape := ⟨[(2, .int .i64)], [], []⟩
def G52.xJ2_n : Shape := ⟨[(0, .str)], [], []⟩
def G52.mJ2 : Exit → St → St := maskOf tyE [] G52.xJ2_r G52.xJ2_n
def G52.eJ2 : CutE := ⟨2, G52.sJ2, G52.mJ2, fun k vs R K => G52.J2 k (G52.F k) (strOf (vs.getD 0 .any)) (boolOf (vs.getD 1 .any)) (fun y0 => K (.ret) (G52.xJ2_r.build [PV.int .i64 y0])) (fun y0 => K (.normal) (G52.xJ2_n.build [PV.str y0]))⟩
def G52.sJ3 : Shape := ⟨[(0, .str)], [], []⟩
def G52.xJ3_r : Shape := ⟨[(2, .int .i64)], [], []⟩
def G52.mJ3 : Exit → St → St := maskOf tyE [] G52.xJ3_r noSh
def G52.eJ3 : CutE := ⟨3, G52.sJ3, G52.mJ3, fun k vs R K => G52.J3 k (G52.L5 k) (strOf (vs.getD 0 .any)) (fun y0 => K (.ret) (G52.xJ3_r.build [PV.int .i64 y0]))⟩
def G52.sL5 : Shape := ⟨[(0, .str), (3, .int .i64), (4, .int .i64)], [], []⟩
def G52.xL5_0 : Shape := ⟨[(3, .int .i64)], [], []⟩
def G52.mL5 : Exit → St → St := maskOf tyE [(0, G52.xL5_0)] noSh noSh
def G52.eL5 : LoopE := ⟨5, G52.sL5, G52.mL5, fun k vs R K => G52.L5 k (strOf (vs.getD 0 .any)) (intOf (vs.getD 1 .any)) (intOf (vs.getD 2 .any)) (fun y0 => K (.exit 0) (G52.xL5_0.build [PV.int .i64 y0]))⟩
def G52.sJ7 : Shape := ⟨[(0, .str), (3, .int .i64), (4, .int .i64)], [], []⟩
def G52.xJ7_n : Shape := ⟨[(0, .str), (3, .int .i64), (4, .int .i64)], [], []⟩
def G52.mJ7 : Exit → St → St := maskOf tyE [] noSh G52.xJ7_n
def G52.eJ7 : CutE := ⟨7, G52.sJ7, G52.mJ7, fun k vs R K => G52.J7 k (strOf (vs.getD 0 .any)) (intOf (vs.getD 1 .any)) (intOf (vs.getD 2 .any)) (fun y0 y1 y2 => K (.normal) (G52.xJ7_n.build [PV.str y0, PV.int .i64 y1, PV.int .i64 y2]))⟩
def G52.ls : List LoopE := [G52.eL5]
def G52.cs : List CutE := [G52.eJ2, G52.eJ3, G52.eJ7]
theorem G52.tL5 (k : Nat) (vs : List PV) (R : Type) (K : Exit → St → Option R) : G52.eL5.L (k + 1) vs R K = exec tyE Tryz.f52.ntmps (G52.rho k R) (lam tyE k G52.cs G52.ls R) (loopAt G52.c 5) (G52.sL5.build vs) (loopK tyE G52.eL5 k K) := by kernel_rfl
theorem G52.tJ2 (k : Nat) (vs : List PV) (R : Type) (K : Exit → St → Option R) : G52.eJ2.J k vs R K = exec tyE Tryz.f52.ntmps (G52.rho k R) (lam tyE k G52.cs G52.ls R) (secondAt G52.c 2) (G52.sJ2.build vs) (fun x st => K x (G52.mJ2 x st)) := by kernel_rfl
theorem G52.tJ3 (k : Nat) (vs : List PV) (R : Type) (K : Exit → St → Option R) : G52.eJ3.J k vs R K = exec tyE Tryz.f52.ntmps (G52.rho k R) (lam tyE k G52.cs G52.ls R) (secondAt G52.c 3) (G52.sJ3.build vs) (fun x st => K x (G52.mJ3 x st)) := by kernel_rfl
theorem G52.tJ7 (k : Nat) (vs : List PV) (R : Type) (K : Exit → St → Option R) : G52.eJ7.J k vs R K = exec tyE Tryz.f52.ntmps (G52.rho k R) (lam tyE k G52.cs G52.ls R) (secondAt G52.c 7) (G52.sJ7.build vs) (fun x st => K x (G52.mJ7 x st)) := by kernel_rfl
theorem G52.tower : Tower tyE Tryz.f52.ntmps G52.c G52.rho G52.ls G52.cs := tower_of (AllL.cons ⟨by kernel_rfl, fun _ _ _ => by kernel_rfl, maskOf_weak tyE [(0, G52.xL5_0)] noSh noSh, G52.tL5⟩ AllL.nil) (AllL.cons ⟨by kernel_rfl, maskOf_weak tyE [] G52.xJ2_r G52.xJ2_n, G52.tJ2⟩ (AllL.cons ⟨by kernel_rfl, maskOf_weak tyE [] G52.xJ3_r noSh, G52.tJ3⟩ (AllL.cons ⟨by kernel_rfl, maskOf_weak tyE [] noSh G52.xJ7_n, G52.tJ7⟩ AllL.nil)))
theorem G52.body : Tryz.f52.body = some G52.c := by kernel_rfl
theorem G52.name : (Tryz.f52.name == "runtime.NumGoroutine") = false := by kernel_rfl
theorem G52.tF (k : Nat) (vs : List PV) (R : Type) (K : GV → Option R) : G52.A (k + 1) vs R K = execPure tyE (G52.rho k R) (lam tyE k G52.cs G52.ls R) Tryz.f52 (canonArgs G52.ks 0 vs) K := by kernel_rfl
theorem G52.zero {W0 : World} : PureOk Tryz.prog tyE W0 52 (G52.G 0) := pureOk_none (enters_of Tryz.func52 G52.name (by rw [G52.body]; rfl)) (argG_none fun _ _ _ => by kernel_rfl)
theorem G52.step {W0 : World} (k : Nat) (h : ∀ j, j ≤ k → RhoAll Tryz.prog tyE tyB W0 (G52.rho j)) : PureOk Tryz.prog tyE W0 52 (G52.G (k + 1)) := G52.tower.pure tyOk Tryz.func52 G52.body G52.name h (argG_ok (G52.tF k))
theorem G52.scc {W0 : World} (hW : WOk W0) : ∀ k, PureOk Tryz.prog tyE W0 52 (G52.G k) := by
  intro k
  induction k using Nat.strongRecOn with
  | _ k ih =>
    cases k with
    | zero => exact G52.zero
    | succ k => exact G52.step k (fun j hj => ((ih j (Nat.lt_succ_of_le hj)).all rnil_all))
theorem G52.ok {W0 : World} (hW : WOk W0) (k : Nat) : PureOk Tryz.prog tyE W0 52 (G52.G k) := (G52.scc hW k)
def G53.J7 {R : Type} (k : Nat) (x1 : List UInt8) (x2 : List UInt8) (x3 : Int) (Kn : (List UInt8 → List UInt8 → Int → Option R)) : Option R := bif inR x3 (IntKind.i64.wrap (x3 + 1)) ((x1.length : Nat) : Int) then bif leN (x2.length + (sub x1 x3 (IntKind.i64.wrap (x3 + 1))).length) LIM then Kn x1 (x2 ++ (sub x1 x3 (IntKind.i64.wrap (x3 + 1)))) x3 else none else none
def G53.L3 {R : Type} : Nat → List UInt8 → List UInt8 → Int → (List UInt8 → Option R) → Option R
  | 0, _, _, _, _ => none
  | k + 1, x1, x2, x3, K0 => bif ltI (IntKind.i64.wrap (x3 + 1)) ((x1.length : Nat) : Int) then bif inI x3 ((x1.length : Nat) : Int) then bif eqI ((x1.getD (Int.toNat x3) 0).toNat : Int) 92 then bif ltI (IntKind.i64.wrap (x3 + 2)) ((x1.length : Nat) : Int) then G53.J7 k x1 x2 (IntKind.i64.wrap (x3 + 1)) (fun y4 y5 y6 => G53.L3 k y4 y5 (IntKind.i64.wrap (y6 + 1)) K0) else G53.J7 k x1 x2 x3 (fun y7 y8 y9 => G53.L3 k y7 y8 (IntKind.i64.wrap (y9 + 1)) K0) else G53.J7 k x1 x2 x3 (fun y10 y11 y12 => G53.L3 k y10 y11 (IntKind.i64.wrap (y12 + 1)) K0) else none else K0 x2
def G53.F {R : Type} : Nat → List UInt8 → (List UInt8 → Option R) → Option R
  | 0, _, _ => none
  | k + 1, a1, K => G53.L3 k a1 ([] : Bytes) 1 (fun y2 => K y2)
def G53.ks : List AK := [.str]
def G53.A (k : Nat) : List PV → Cps GV := fun vs R K => G53.F k (strOf (vs.getD 0 .any)) (fun r1 => K (GV.pv (PV.str r1)))
def G53.G (k : Nat) : PureG := argG G53.ks (G53.A k)
def G53.c : Code := Tryz.f53.body.getD .skip
def G53.rho (k : Nat) : RhoF := rnil
def G53.sL3 : Shape := ⟨[(0, .str), (3, .str), (4, .int .i64)], [], []⟩
def G53.xL3_0 : Shape := ⟨[(3, .str)], [], []⟩
def G53.mL3 : Exit → St → St := maskOf tyE [(0, G53.xL3_0)] noSh noSh
def G53.eL3 : LoopE := ⟨3, G53.sL3, G53.mL3, fun k vs R K => G53.L3 k (strOf (vs.getD 0 .any)) (strOf (vs.getD 1 .any)) (intOf (vs.getD 2 .any)) (fun y0 => K (.exit 0) (G53.xL3_0.build [PV.str y0]))⟩
def G53.sJ7 : Shape := ⟨[(0, .str), (3, .str), (4, .int .i64)], [], []⟩
def G53.xJ7_n : Shape := ⟨[(0, .str), (3, .str), (4, .int .i64)], [], []⟩
def G53.mJ7 : Exit → St → St := maskOf tyE [] noSh G53.xJ7_n
def G53.eJ7 : CutE := ⟨7, G53.sJ7, G53.mJ7, fun k vs R K => G53.J7 k (strOf (vs.getD 0 .any)) (strOf (vs.getD 1 .any)) (intOf (vs.getD 2 .any)) (fun y0 y1 y2 => K (.normal) (G53.xJ7_n.build [PV.str y0, PV.str y1, PV.int .i64 y2]))⟩
def G53.ls : List LoopE := [G53.eL3]
def G53.cs : List CutE := [G53.eJ7]
theorem G53.tL3 (k : Nat) (vs : List PV) (R : Type) (K : Exit → St → Option R) : G53.eL3.L (k + 1) vs R K = exec tyE Tryz.f53.ntmps (G53.rho k R) (lam tyE k G53.cs G53.ls R) (loopAt G53.c 3) (G53.sL3.build vs) (loopK tyE G53.eL3 k K) := by kernel_rfl
theorem G53.tJ7 (k : Nat) (vs : List PV) (R : Type) (K : Exit → St → Option R) : G53.eJ7.J k vs R K = exec tyE Tryz.f53.ntmps (G53.rho k R) (lam tyE k G53.cs G53.ls R) (secondAt G53.c 7) (G53.sJ7.build vs) (fun x st => K x (G53.mJ7 x st)) := by kernel_rfl
theorem G53.tower : Tower tyE Tryz.f53.ntmps G53.c G53.rho G53.ls G53.cs := tower_of (AllL.cons ⟨by kernel_rfl, fun _ _ _ => by kernel_rfl, maskOf_weak tyE [(0, G53.xL3_0)] noSh noSh, G53.tL3⟩ AllL.nil) (AllL.cons ⟨by kernel_rfl, maskOf_weak tyE [] noSh G53.xJ7_n, G53.tJ7⟩ AllL.nil)
theorem G53.body : Tryz.f53.body = some G53.c := by kernel_rfl
theorem G53.name : (Tryz.f53.name == "runtime.NumGoroutine") = false := by kernel_rfl
theorem G53.tF (k : Nat) (vs : List PV) (R : Type) (K : GV → Option R) : G53.A (k + 1) vs R K = execPure tyE (G53.rho k R) (lam tyE k G53.cs G53.ls R) Tryz.f53 (canonArgs G53.ks 0 vs) K := by kernel_rfl
theorem G53.zero {W0 : World} : PureOk Tryz.prog tyE W0 53 (G53.G 0) := pureOk_none (enters_of Tryz.func53 G53.name (by rw [G53.body]; rfl)) (argG_none fun _ _ _ => by kernel_rfl)
theorem G53.step {W0 : World} (k : Nat) (h : ∀ j, j ≤ k → RhoAll Tryz.prog tyE tyB W0 (G53.rho j)) : PureOk Tryz.prog tyE W0 53 (G53.G (k + 1)) := G53.tower.pure tyOk Tryz.func53 G53.body G53.name h (argG_ok (G53.tF k))
theorem G53.all {W0 : World} (hW : WOk W0) (j : Nat) : RhoAll Tryz.prog tyE tyB W0 (G53.rho j) := rnil_all
theorem G53.ok {W0 : World} (hW : WOk W0) : ∀ k, PureOk Tryz.prog tyE W0 53 (G53.G k)
  | 0 => G53.zero
  | k + 1 => G53.step k fun j _ => G53.all hW j
def G145.F {R : Type} : Nat → Int → List UInt8 → Int → Bool → (Bool → List UInt8 → Int → Bool → Option R) → Option R
  | 0, _, _, _, _, _ => none
  | k + 1, a1, h2, h3, h4, K => bif ltI h3 ((h2.length : Nat) : Int) then bif inI h3 ((h2.length : Nat) : Int) then K (eqI ((h2.getD (Int.toNat h3) 0).toNat : Int) a1) h2 h3 h4 else none else K false h2 h3 h4
def G145.sh : Shape := ⟨[(0, .fix (CV.ptr 1000 0)), (1, .int .u8)], [(1000, (.box [.str, .int .i64, .bool]))], []⟩
def G145.A (k : Nat) : List PV → (R : Type) → (GV → List (Nat × Ob) → Option R) → Option R := fun vs R K => G145.F k (intOf (vs.getD 1 .any)) (strOf (vs.getD 2 .any)) (intOf (vs.getD 3 .any)) (boolOf (vs.getD 4 .any)) (fun r1 o2 o3 o4 => K (GV.pv (PV.bool r1)) [(1000, Ob.box [CV.p (PV.str o2), CV.p (PV.int .i64 o3), CV.p (PV.bool o4)])])
def G145.G (k : Nat) : HeapG := argH 2 G145.sh (G145.A k)
def G145.c : Code := Tryz.f145.body.getD .skip
def G145.rho (k : Nat) : RhoF := rnil
def G145.ls : List LoopE := []
def G145.cs : List CutE := []
theorem G145.tower : Tower tyE Tryz.f145.ntmps G145.c G145.rho G145.ls G145.cs := tower_of AllL.nil AllL.nil
theorem G145.body : Tryz.f145.body = some G145.c := by kernel_rfl
theorem G145.name : (Tryz.f145.name == "runtime.NumGoroutine") = false := by kernel_rfl
theorem G145.tF (k : Nat) (vs : List PV) (R : Type) (K : GV → List (Nat × Ob) → Option R) : G145.A (k + 1) vs R K = execHeap tyE (G145.rho k R) (lam tyE k G145.cs G145.ls R) Tryz.f145 (G145.sh.asOf 2 vs) (G145.sh.hOf vs) K := by kernel_rfl
theorem G145.zero {W0 : World} : HeapGOk Tryz.prog tyE tyB W0 145 (G145.G 0) := heapOk_none (enters_of Tryz.func145 G145.name (by rw [G145.body]; rfl)) (argH_none fun _ _ _ => by kernel_rfl)
theorem G145.step {W0 : World} (k : Nat) (h : ∀ j, j ≤ k → RhoAll Tryz.prog tyE tyB W0 (G145.rho j)) : HeapGOk Tryz.prog tyE tyB W0 145 (G145.G (k + 1)) := G145.tower.heapH tyOk Tryz.func145 G145.body G145.name h (G145.tF k)
theorem G145.all {W0 : World} (hW : WOk W0) (j : Nat) : RhoAll Tryz.prog tyE tyB W0 (G145.rho j) := rnil_all
theorem G145.ok {W0 : World} (hW : WOk W0) : ∀ k, HeapGOk Tryz.prog tyE tyB W0 145 (G145.G k)
  | 0 => G145.zero
  | k + 1 => G145.step k fun j _ => G145.all hW j
end
end Go.Dip
end
