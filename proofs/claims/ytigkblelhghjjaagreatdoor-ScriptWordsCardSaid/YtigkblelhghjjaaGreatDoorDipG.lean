/- Joined by program out of: Lib, Fns, Words. -/
import Derived.Test.YtigkblelhghjjaaGreatDoorDipE
import Derived.Test.YtigkblelhghjjaaGreatDoorDipF
import Derived.KernelRfl
import Derived.Test.YtigkblelhghjjaaGreatDoorDipD
import Derived.Test.YtigkblelhghjjaaGreatDoorProg
import Derived.Sort.OwnSorted
set_option linter.all false
/- The library's functions that the seat calls, by the shelf's contracts; the functions that defer. -/
section
set_option linter.unusedVariables false
set_option maxRecDepth 100000
namespace Go.Dip
open Go.Proofs Go.RowKit Go.Maps Go.Sort
/-- The world as the program's beginning laid it. -/
structure WOk (W0 : World) : Prop where
  len : ∃ m, W0.cell? ⟨0, 0, none⟩ = some (.int .i64 m)
  pow : Lib.TabIs Tryz.prog W0 "internal/strconv.uint64pow10" .u64 Lib.pow10Tab
  syn : ∃ te pe, W0.cell? ⟨3, 0, none⟩ = some (.iface te pe)
  rng : ∃ te pe, W0.cell? ⟨4, 0, none⟩ = some (.iface te pe)
  utf : Lib.Utf8Tabs 1 2 W0
theorem utf_below {w w' : World} (hb : Below w.heap.size w w') (h : Lib.Utf8Tabs 1 2 w) : Lib.Utf8Tabs 1 2 w' :=
  ⟨fun c hc => cell_below hb (h.1 c hc), fun i hi => ⟨cell_below hb (h.2 i hi).1, cell_below hb (h.2 i hi).2⟩⟩
noncomputable section
variable {W0 : World}
def cutG : PureG := argG [.str, .str] fun vs R K => lCut (strOf (vs.getD 0 .any)) (strOf (vs.getD 1 .any)) (fun r1 r2 r3 => K (GV.tup [CV.p (PV.str r1), CV.p (PV.str r2), CV.p (PV.bool r3)]))
theorem libCut_ok (hW : WOk W0) : PureOk Tryz.prog tyE W0 35 cutG := by
  obtain ⟨m, hm⟩ := hW.len
  exact lib_cut (enters_of Tryz.func35 (by kernel_rfl) (by kernel_rfl)) hm fun s sep m w h1 h2 => Any.strings_Cut Tryz.lays145 s sep m w h1 h2
def atoiG : PureG := argG [.str] fun vs R K => lAtoi (strOf (vs.getD 0 .any)) (fun r1 r2 => K (GV.tup [CV.p (PV.int .i64 r1), CV.p r2]))
theorem atoi_ok (hW : WOk W0) : PureOk Tryz.prog tyE W0 153 atoiG := by
  obtain ⟨t1, p1, h1⟩ := hW.syn
  obtain ⟨t2, p2, h2⟩ := hW.rng
  refine lib_atoi (enters_of Tryz.func153 (by kernel_rfl) (by kernel_rfl)) (fun s v w hs h => ?_) (fun s w hb hs h => ?_) (fun s w hb hs h => ?_)
  · refine (Any.strconv_Atoi_ok Tryz.laysc172 s hs v h w).mono ?_
    rintro e w' ⟨rfl, rfl | ⟨t, rfl⟩⟩
    · exact ⟨rfl, Below.refl _ _⟩
    · exact ⟨rfl, Lib.bytesWorld_below w 5 t⟩
  · refine (Any.strconv_Atoi_syntax Tryz.laysc172 s hs (by cases e : Lib.atoiAll s.data.toList with
      | ok v => exact absurd e (h.2 v)
      | range => exact absurd e h.1
      | _ => rfl) _ w (cell_below hb h1) (.inr ⟨_, _, rfl⟩)).mono ?_
    rintro e w' ⟨N, rfl, _, _, hb'⟩
    exact ⟨⟨_, _, rfl⟩, hb'⟩
  · refine (Any.strconv_Atoi_range Tryz.laysc172 s hs h _ w (cell_below hb h2) (.inr ⟨_, _, rfl⟩)).mono ?_
    rintro e w' ⟨N, rfl, _, _, hb'⟩
    exact ⟨⟨_, _, rfl⟩, hb'⟩
theorem parseUint_ok (hW : WOk W0) : PureOk Tryz.prog tyE W0 52 (pureG [.str, .int .i64, .int .i64] parseC parseX) := by
  obtain ⟨t1, p1, h1⟩ := hW.syn
  obtain ⟨t2, p2, h2⟩ := hW.rng
  refine lib_parseUint (enters_of Tryz.func52 (by kernel_rfl) (by kernel_rfl)) (fun s v w hs h => ?_) (fun s w hb hs h => ?_) (fun s w hb hs h => ?_)
  · refine (Any.strconv_ParseUint_10_at16_ok Tryz.layspu14 s hs v h w).mono ?_
    rintro e w' ⟨rfl, rfl | rfl⟩
    · exact ⟨rfl, Below.refl _ _⟩
    · exact ⟨rfl, Lib.bytesWorld_below w 5 s⟩
  · refine (Any.strconv_ParseUint_10_at16_syntax Tryz.layspu14 s hs (by cases e : Lib.parseUintB 16 s.data.toList with
      | ok v => exact absurd e (h.2 v)
      | range => exact absurd e h.1
      | _ => rfl) _ w (cell_below hb h1) (.inr ⟨_, _, rfl⟩)).mono ?_
    rintro e w' ⟨N, rfl, _, _, hb'⟩
    exact ⟨⟨_, _, rfl⟩, hb'⟩
  · refine (Any.strconv_ParseUint_10_at16_range Tryz.layspu14 s hs h _ w (cell_below hb h2) (.inr ⟨_, _, rfl⟩)).mono ?_
    rintro e w' ⟨N, rfl, _, _, hb'⟩
    exact ⟨⟨_, _, rfl⟩, hb'⟩
def itoaG : PureG := argG [.int .i64] fun vs R K => lItoa (intOf (vs.getD 0 .any)) (fun r1 => K (GV.pv (PV.str r1)))
theorem itoa_ok (hW : WOk W0) : PureOk Tryz.prog tyE W0 49 itoaG := by
  refine lib_itoa (enters_of Tryz.func49 (by kernel_rfl) (by kernel_rfl)) (T := fun w => Lib.TabIs Tryz.prog w "internal/strconv.uint64pow10" .u64 Lib.pow10Tab) (fun w hb => tab_below hb hW.pow) fun n w h1 h2 hT => ?_
  refine (Any.strconv_Itoa Tryz.laysm171 n h1 h2 w hT).mono ?_
  rintro e w' ⟨rfl, k, os, rfl⟩
  exact ⟨rfl, below_append w _ rfl rfl rfl os rfl⟩
def writeStringG : HeapG := argH 2 ⟨[(0, .fix (CV.ptr 1000 0)), (1, .str)], [(1000, .bld)], []⟩ fun vs R K => lWriteString (strOf (vs.getD 1 .any)) (strOf (vs.getD 2 .any)) (fun r1 r2 o3 => K (GV.tup [CV.p (PV.int .i64 r1), CV.p r2]) [(1000, Ob.bld o3)])
theorem writeString_ok : HeapGOk Tryz.prog tyE tyB W0 119 writeStringG :=
  lib_writeString (enters_of Tryz.func119 (by kernel_rfl) (by kernel_rfl)) fun B b bs s w h1 h2 h3 => Any.Builder_WriteString_k Tryz.lays166 Tryz.extra166 B b bs s w h1 h2 h3
def writeByteG : HeapG := argH 2 ⟨[(0, .fix (CV.ptr 1000 0)), (1, .int .u8)], [(1000, .bld)], []⟩ fun vs R K => lWriteByte (intOf (vs.getD 1 .any)) (strOf (vs.getD 2 .any)) (fun r1 o2 => K (GV.pv (r1)) [(1000, Ob.bld o2)])
theorem writeByte_ok : HeapGOk Tryz.prog tyE tyB W0 219 writeByteG :=
  lib_writeByte (enters_of Tryz.func219 (by kernel_rfl) (by kernel_rfl)) fun B b bs c w h1 h2 h3 => Any.Builder_WriteByte_k Tryz.lays167 Tryz.extra167 B b bs c w h1 h2 h3
def bldStringG : HeapG := argH 1 ⟨[(0, .fix (CV.ptr 1000 0))], [(1000, .bld)], []⟩ fun vs R K => lString (strOf (vs.getD 1 .any)) (fun r1 o2 => K (GV.pv (PV.str r1)) [(1000, Ob.bld o2)])
theorem bldString_ok : HeapGOk Tryz.prog tyE tyB W0 70 bldStringG :=
  lib_string (enters_of Tryz.func70 (by kernel_rfl) (by kernel_rfl)) fun B b l w h1 h2 => Any.Builder_String_any_k Tryz.lays169 Tryz.extra169 B b l w h1 h2
def joinG : PureG := argG [.sl 1, .str] fun vs R K => lJoin (slOf (vs.getD 0 .any)) (strOf (vs.getD 1 .any)) (fun r1 => K (GV.pv (PV.str r1)))
theorem join_ok : PureOk Tryz.prog tyE W0 74 joinG :=
  lib_join (enters_of Tryz.func74 (by kernel_rfl) (by kernel_rfl)) (fun a c sep w => Any.strings_Join_none Tryz.lays156 Tryz.extra156 a c sep w) fun bk o c xs sep w h1 h2 h3 h4 h5 => Any.strings_Join Tryz.lays156 Tryz.extra156 bk o c xs sep w h1 h2 h3 h4 h5
def trimG : PureG := argG [.str, .str] fun vs R K => lTrim (strOf (vs.getD 0 .any)) (strOf (vs.getD 1 .any)) (fun r1 => K (GV.pv (PV.str r1)))
theorem trim_ok : PureOk Tryz.prog tyE W0 242 trimG :=
  lib_trim (enters_of Tryz.func242 (by kernel_rfl) (by kernel_rfl)) fun s cs w h1 h2 h3 => Any.strings_Trim_laid Tryz.lays160 (by kernel_rfl) s cs w h1 h2 h3
def trimLeftG : PureG := argG [.str, .str] fun vs R K => lTrimLeft (strOf (vs.getD 0 .any)) (strOf (vs.getD 1 .any)) (fun r1 => K (GV.pv (PV.str r1)))
theorem trimLeft_ok : PureOk Tryz.prog tyE W0 188 trimLeftG :=
  lib_trimLeft (enters_of Tryz.func188 (by kernel_rfl) (by kernel_rfl)) fun s cs w h1 h2 => Any.strings_TrimLeft_laid Tryz.lays161 (by kernel_rfl) s cs w h1 h2
def validG : PureG := argG [.str] fun vs R K => lValid (strOf (vs.getD 0 .any)) (fun r1 => K (GV.pv (PV.bool r1)))
theorem valid_ok (hW : WOk W0) : PureOk Tryz.prog tyE W0 192 validG :=
  lib_valid (enters_of Tryz.func192 (by kernel_rfl) (by kernel_rfl)) (T := Lib.Utf8Tabs 1 2) (fun w hb => utf_below hb hW.utf) fun s w h1 h2 => Any.utf8_ValidString Tryz.lays196 s w h1 h2
def replaceAllG : PureG := argG [.str, .str, .str] fun vs R K => lReplaceAll (strOf (vs.getD 0 .any)) (strOf (vs.getD 1 .any)) (strOf (vs.getD 2 .any)) (fun r1 => K (GV.pv (PV.str r1)))
theorem replaceAll_ok (hW : WOk W0) : PureOk Tryz.prog tyE W0 190 replaceAllG := by
  obtain ⟨m, hm⟩ := hW.len
  exact lib_replaceAll (enters_of Tryz.func190 (by kernel_rfl) (by kernel_rfl)) hm fun s old new m w h1 h2 h3 h4 => Any.strings_ReplaceAll Tryz.lays155 Tryz.extra155 s old new m w h1 h2 h3 h4
def runeCountG : PureG := argG [.str] fun vs R K => lRuneCount (strOf (vs.getD 0 .any)) (fun r1 => K (GV.pv (PV.int .i64 r1)))
theorem runeCount_ok : PureOk Tryz.prog tyE W0 56 runeCountG :=
  lib_runeCount (enters_of Tryz.func56 (by kernel_rfl) (by kernel_rfl)) fun s w h => Any.utf8_RuneCountInString Tryz.lays195 s w h
theorem index_ok (hW : WOk W0) : PureOk Tryz.prog tyE W0 33 (pureG [.str, .str] indexC indexX) := by
  obtain ⟨m, hm⟩ := hW.len
  exact lib_index (enters_of Tryz.func33 (by kernel_rfl) (by kernel_rfl)) hm fun s sub m w h1 h2 => Any.strings_Index Tryz.lays143 s sub m w h1 h2
theorem indexAny_ok : PureOk Tryz.prog tyE W0 63 (pureG [.str, .str] indexAnyC indexAnyX) :=
  lib_indexAny (enters_of Tryz.func63 (by kernel_rfl) (by kernel_rfl)) fun s chars w h1 h2 h3 h4 => Any.strings_IndexAny_laid Tryz.lays153 (by kernel_rfl) s chars w h1 h2 h3 h4
theorem countString_ok : PureOk Tryz.prog tyE W0 58 (pureG [.str, .int .u8] countC countX) :=
  lib_countString fun s c w => by
    rw [run_callFunc_extern Tryz.func58 (by kernel_rfl) (by kernel_rfl) (by kernel_rfl) (e := Extern.BytealgCount.count) (by kernel_rfl), Lib.run_countString]
    rfl
theorem load64_ok : HeapGOk Tryz.prog tyE tyB W0 91 (loadG .i64) := lib_load tyOk .i64 fun a x w h => run_call_load Tryz.func91 (by kernel_rfl) (by kernel_rfl) (by kernel_rfl) .i64 (by kernel_rfl) h
theorem load32_ok : HeapGOk Tryz.prog tyE tyB W0 424 (loadG .u32) := lib_load tyOk .u32 fun a x w h => run_call_load Tryz.func424 (by kernel_rfl) (by kernel_rfl) (by kernel_rfl) .u32 (by kernel_rfl) h
theorem add64_ok : HeapGOk Tryz.prog tyE tyB W0 232 (addG .i64) := lib_add tyOk .i64 fun a x y s w h1 h2 h3 => run_call_add Tryz.func232 (by kernel_rfl) (by kernel_rfl) (by kernel_rfl) .i64 (by kernel_rfl) h1 h2 h3
theorem clone84_ok : HeapGOk Tryz.prog tyE tyB W0 84 (cloneG tyE (Tryz.clone84_ren.t 23)) := clone_ok tyOk Tryz.clone84 (by kernel_rfl) (enters_of Tryz.func84 (by kernel_rfl) (by kernel_rfl))
theorem clone148_ok : HeapGOk Tryz.prog tyE tyB W0 148 (cloneG tyE (Tryz.clone148_ren.t 23)) := clone_ok tyOk Tryz.clone148 (by kernel_rfl) (enters_of Tryz.func148 (by kernel_rfl) (by kernel_rfl))
theorem clone149_ok : HeapGOk Tryz.prog tyE tyB W0 149 (cloneG tyE (Tryz.clone149_ren.t 23)) := clone_ok tyOk Tryz.clone149 (by kernel_rfl) (enters_of Tryz.func149 (by kernel_rfl) (by kernel_rfl))
theorem clone150_ok : HeapGOk Tryz.prog tyE tyB W0 150 (cloneG tyE (Tryz.clone150_ren.t 23)) := clone_ok tyOk Tryz.clone150 (by kernel_rfl) (enters_of Tryz.func150 (by kernel_rfl) (by kernel_rfl))
theorem clone203_ok : HeapGOk Tryz.prog tyE tyB W0 203 (cloneG tyE (Tryz.clone203_ren.t 23)) := clone_ok tyOk Tryz.clone203 (by kernel_rfl) (enters_of Tryz.func203 (by kernel_rfl) (by kernel_rfl))
theorem clone204_ok : HeapGOk Tryz.prog tyE tyB W0 204 (cloneG tyE (Tryz.clone204_ren.t 23)) := clone_ok tyOk Tryz.clone204 (by kernel_rfl) (enters_of Tryz.func204 (by kernel_rfl) (by kernel_rfl))
theorem clone476_ok : HeapGOk Tryz.prog tyE tyB W0 476 (cloneG tyE (Tryz.clone476_ren.t 23)) := clone_ok tyOk Tryz.clone476 (by kernel_rfl) (enters_of Tryz.func476 (by kernel_rfl) (by kernel_rfl))
theorem grow346_ok : HeapGOk Tryz.prog tyE tyB W0 346 (growG tyE (Tryz.grow346_ren.t 25)) := grow_ok tyOk Tryz.grow346 (by kernel_rfl) (enters_of Tryz.func346 (by kernel_rfl) (by kernel_rfl))
theorem grow479_ok : HeapGOk Tryz.prog tyE tyB W0 479 (growG tyE (Tryz.grow479_ren.t 25)) := grow_ok tyOk Tryz.grow479 (by kernel_rfl) (enters_of Tryz.func479 (by kernel_rfl) (by kernel_rfl))
theorem Tryz.sorts315 (m : Nat) : AnyZ.SortsIn Tryz.prog Tryz.sorted315_ren Fence.wide m :=
  ⟨fun blk off cap ss W hH hblk hsz => callsIn_wide.2 (AnyM.slices_Sort_string Tryz.sort322 blk off cap ss W hH hblk hsz),
   fun p cap W => callsIn_wide.2 (AnyM.slices_Sort_string_none Tryz.sort322 p cap W)⟩
theorem sorted_ok : HeapGOk Tryz.prog tyE tyB W0 315 (sortedG tyE 9 [357, 473]) := by
  refine lib_sorted (kt := 9) (enters_of Tryz.func315 (by kernel_rfl) (by kernel_rfl)) (by kernel_rfl) Tryz.underlying9 fun g hg => ?_
  rcases List.mem_cons.1 hg with rfl | hg
  · refine ⟨by kernel_rfl, fun Bm b nn D0 R w h1 h2 h3 h4 h5 => ?_⟩
    have hseq : SeqGives Fence.wide 2 Tryz.prog 357 #[.pointer (some ⟨Bm, 0, none⟩)] encStr (fun ss => ss.Perm (strKeys D0)) (Maps.size D0) w :=
      AnyZ.keys_gives (ρ := Tryz.keys316_ren) { Tryz.keys316 with } Fence.wide _ trivial rfl (by omega) Bm b nn D0 w h1 h2 h3
    refine (callsIn_wide.1 (AnyZ.sorted_in Tryz.sorted315 Fence.wide 5 trivial trivial trivial trivial rfl (by omega) (Tryz.sorts315 _) (fun aa w => enters_of Tryz.func322 (by kernel_rfl) rfl w aa) 357 #[.pointer (some ⟨Bm, 0, none⟩)] trivial (fun aa w => enters_of Tryz.func357 (by kernel_rfl) rfl w aa) _ _ h4 h5 _ hseq)).mono ?_
    rintro e w' ⟨v, ss, k1, k2, k3, _, k4⟩
    exact ⟨v, ss, k1, k2, k3, k4⟩
  · obtain rfl : g = 473 := by simpa using hg
    refine ⟨by kernel_rfl, fun Bm b nn D0 R w h1 h2 h3 h4 h5 => ?_⟩
    have hseq : SeqGives Fence.wide 2 Tryz.prog 473 #[.pointer (some ⟨Bm, 0, none⟩)] encStr (fun ss => ss.Perm (strKeys D0)) (Maps.size D0) w :=
      AnyZ.keys_gives (ρ := Tryz.keys462_ren) { Tryz.keys462 with } Fence.wide _ trivial rfl (by omega) Bm b nn D0 w h1 h2 h3
    refine (callsIn_wide.1 (AnyZ.sorted_in Tryz.sorted315 Fence.wide 5 trivial trivial trivial trivial rfl (by omega) (Tryz.sorts315 _) (fun aa w => enters_of Tryz.func322 (by kernel_rfl) rfl w aa) 473 #[.pointer (some ⟨Bm, 0, none⟩)] trivial (fun aa w => enters_of Tryz.func473 (by kernel_rfl) rfl w aa) _ _ h4 h5 _ hseq)).mono ?_
    rintro e w' ⟨v, ss, k1, k2, k3, _, k4⟩
    exact ⟨v, ss, k1, k2, k3, k4⟩
theorem slow_ok {ρ : RhoF} (hρ : RhoAll Tryz.prog tyE tyB W0 ρ) : HeapGOk Tryz.prog tyE tyB W0 417 (natH (slowG0 tyE ρ [405, 428])) := by
  refine lib_slow tyOk hρ (enters_of Tryz.func417 (by kernel_rfl) (by kernel_rfl)) (fun g hg => ?_) fun b off g vs w Q eg h0 h1 f0 f1 hcl hQ => Tryz.sSlow b off g vs w Q eg h0 h1 f0 f1 hcl hQ
  rcases List.mem_cons.1 hg with rfl | hg
  · exact ⟨by kernel_rfl, enters_of Tryz.func405 (by kernel_rfl) (by kernel_rfl)⟩
  · obtain rfl : g = 428 := by simpa using hg
    exact ⟨by kernel_rfl, enters_of Tryz.func428 (by kernel_rfl) (by kernel_rfl)⟩
def codeOf (fn : Func) : Code := match fn.body with
  | some c => c
  | none => .skip
def seqL : Code → Code
  | .seq a _ => a
  | c => c
def seqR : Code → Code
  | .seq _ b => b
  | c => c
def opsOf : Code → Array Oper
  | .region _ ops _ => ops
  | _ => #[]
noncomputable def whereG (ρ : RhoF) : PureG := natP (pureD tyE ρ Tryz.f283 (seqL (codeOf Tryz.f283)) (seqR (seqR (codeOf Tryz.f283))) ((opsOf (seqL (seqR (codeOf Tryz.f283))))[0]!) 13 342 Tryz.f342 (codeOf Tryz.f342))
theorem where_ok {ρ : RhoF} (hρ : RhoAll Tryz.prog tyE tyB W0 ρ) : PureOk Tryz.prog tyE W0 283 (whereG ρ) :=
  pureD_ok tyOk hρ (id := 1) (o2 := (opsOf (seqL (seqR (codeOf Tryz.f283))))[1]!) (ts := #[]) Tryz.func283 (by kernel_rfl) (by kernel_rfl) (by kernel_rfl) (by kernel_rfl) (by kernel_rfl) (by kernel_rfl) (by kernel_rfl) ⟨Tryz.func342, by kernel_rfl, by kernel_rfl⟩ (by kernel_rfl)
/-- All of them; some call what is below. -/
noncomputable def libN (ρ : RhoF) : RhoF :=
  rp 35 cutG <| rp 153 atoiG <| rp 52 (pureG [.str, .int .i64, .int .i64] parseC parseX) <| rp 49 itoaG <| rh 119 writeStringG <| rh 219 writeByteG <| rh 70 bldStringG <| rp 74 joinG <| rp 242 trimG <| rp 188 trimLeftG <| rp 192 validG <| rp 190 replaceAllG <| rp 56 runeCountG <|
  rp 33 (pureG [.str, .str] indexC indexX) <| rp 63 (pureG [.str, .str] indexAnyC indexAnyX) <| rp 58 (pureG [.str, .int .u8] countC countX) <| rh 91 (loadG .i64) <| rh 424 (loadG .u32) <| rh 232 (addG .i64) <|
  rh 84 (cloneG tyE (Tryz.clone84_ren.t 23)) <| rh 148 (cloneG tyE (Tryz.clone148_ren.t 23)) <| rh 149 (cloneG tyE (Tryz.clone149_ren.t 23)) <| rh 150 (cloneG tyE (Tryz.clone150_ren.t 23)) <| rh 203 (cloneG tyE (Tryz.clone203_ren.t 23)) <| rh 204 (cloneG tyE (Tryz.clone204_ren.t 23)) <| rh 476 (cloneG tyE (Tryz.clone476_ren.t 23)) <|
  rh 346 (growG tyE (Tryz.grow346_ren.t 25)) <| rh 479 (growG tyE (Tryz.grow479_ren.t 25)) <| rh 315 (sortedG tyE 9 [357, 473]) <| rh 417 (natH (slowG0 tyE ρ [405, 428])) <| rp 283 (whereG ρ) rnil
theorem libN_ok (hW : WOk W0) (ρ : RhoF) (hρ : RhoAll Tryz.prog tyE tyB W0 ρ) : RhoAll Tryz.prog tyE tyB W0 (libN ρ) :=
  (libCut_ok hW).all <| (atoi_ok hW).all <| (parseUint_ok hW).all <| (itoa_ok hW).all <| writeString_ok.all <| writeByte_ok.all <| bldString_ok.all <| join_ok.all <| trim_ok.all <| trimLeft_ok.all <| (valid_ok hW).all <| (replaceAll_ok hW).all <| runeCount_ok.all <|
  (index_ok hW).all <| indexAny_ok.all <| countString_ok.all <| load64_ok.all <| load32_ok.all <| add64_ok.all <|
  clone84_ok.all <| clone148_ok.all <| clone149_ok.all <| clone150_ok.all <| clone203_ok.all <| clone204_ok.all <| clone476_ok.all <|
  grow346_ok.all <| grow479_ok.all <| sorted_ok.all <| (slow_ok hρ).all <| (where_ok hρ).all rnil_all
end
end Go.Dip
end

/- Printed by program (wip/tools/mkfns.py): the seat's functions that are run by their bodies. -/
section
set_option linter.unusedVariables false
set_option maxRecDepth 100000
namespace Go.Dip
open Go.Proofs
theorem fnOk3 : FnOk Tryz.prog 3 Tryz.f3 := ⟨Tryz.func3, by kernel_rfl, by kernel_rfl⟩
theorem fnOk4 : FnOk Tryz.prog 4 Tryz.f4 := ⟨Tryz.func4, by kernel_rfl, by kernel_rfl⟩
theorem fnOk5 : FnOk Tryz.prog 5 Tryz.f5 := ⟨Tryz.func5, by kernel_rfl, by kernel_rfl⟩
theorem fnOk6 : FnOk Tryz.prog 6 Tryz.f6 := ⟨Tryz.func6, by kernel_rfl, by kernel_rfl⟩
theorem fnOk8 : FnOk Tryz.prog 8 Tryz.f8 := ⟨Tryz.func8, by kernel_rfl, by kernel_rfl⟩
theorem fnOk9 : FnOk Tryz.prog 9 Tryz.f9 := ⟨Tryz.func9, by kernel_rfl, by kernel_rfl⟩
theorem fnOk10 : FnOk Tryz.prog 10 Tryz.f10 := ⟨Tryz.func10, by kernel_rfl, by kernel_rfl⟩
theorem fnOk11 : FnOk Tryz.prog 11 Tryz.f11 := ⟨Tryz.func11, by kernel_rfl, by kernel_rfl⟩
theorem fnOk12 : FnOk Tryz.prog 12 Tryz.f12 := ⟨Tryz.func12, by kernel_rfl, by kernel_rfl⟩
theorem fnOk13 : FnOk Tryz.prog 13 Tryz.f13 := ⟨Tryz.func13, by kernel_rfl, by kernel_rfl⟩
theorem fnOk14 : FnOk Tryz.prog 14 Tryz.f14 := ⟨Tryz.func14, by kernel_rfl, by kernel_rfl⟩
theorem fnOk15 : FnOk Tryz.prog 15 Tryz.f15 := ⟨Tryz.func15, by kernel_rfl, by kernel_rfl⟩
theorem fnOk16 : FnOk Tryz.prog 16 Tryz.f16 := ⟨Tryz.func16, by kernel_rfl, by kernel_rfl⟩
theorem fnOk17 : FnOk Tryz.prog 17 Tryz.f17 := ⟨Tryz.func17, by kernel_rfl, by kernel_rfl⟩
theorem fnOk18 : FnOk Tryz.prog 18 Tryz.f18 := ⟨Tryz.func18, by kernel_rfl, by kernel_rfl⟩
theorem fnOk19 : FnOk Tryz.prog 19 Tryz.f19 := ⟨Tryz.func19, by kernel_rfl, by kernel_rfl⟩
theorem fnOk20 : FnOk Tryz.prog 20 Tryz.f20 := ⟨Tryz.func20, by kernel_rfl, by kernel_rfl⟩
theorem fnOk21 : FnOk Tryz.prog 21 Tryz.f21 := ⟨Tryz.func21, by kernel_rfl, by kernel_rfl⟩
theorem fnOk22 : FnOk Tryz.prog 22 Tryz.f22 := ⟨Tryz.func22, by kernel_rfl, by kernel_rfl⟩
theorem fnOk23 : FnOk Tryz.prog 23 Tryz.f23 := ⟨Tryz.func23, by kernel_rfl, by kernel_rfl⟩
theorem fnOk24 : FnOk Tryz.prog 24 Tryz.f24 := ⟨Tryz.func24, by kernel_rfl, by kernel_rfl⟩
theorem fnOk26 : FnOk Tryz.prog 26 Tryz.f26 := ⟨Tryz.func26, by kernel_rfl, by kernel_rfl⟩
theorem fnOk27 : FnOk Tryz.prog 27 Tryz.f27 := ⟨Tryz.func27, by kernel_rfl, by kernel_rfl⟩
theorem fnOk28 : FnOk Tryz.prog 28 Tryz.f28 := ⟨Tryz.func28, by kernel_rfl, by kernel_rfl⟩
theorem fnOk29 : FnOk Tryz.prog 29 Tryz.f29 := ⟨Tryz.func29, by kernel_rfl, by kernel_rfl⟩
theorem fnOk30 : FnOk Tryz.prog 30 Tryz.f30 := ⟨Tryz.func30, by kernel_rfl, by kernel_rfl⟩
theorem fnOk32 : FnOk Tryz.prog 32 Tryz.f32 := ⟨Tryz.func32, by kernel_rfl, by kernel_rfl⟩
theorem fnOk34 : FnOk Tryz.prog 34 Tryz.f34 := ⟨Tryz.func34, by kernel_rfl, by kernel_rfl⟩
theorem fnOk36 : FnOk Tryz.prog 36 Tryz.f36 := ⟨Tryz.func36, by kernel_rfl, by kernel_rfl⟩
theorem fnOk37 : FnOk Tryz.prog 37 Tryz.f37 := ⟨Tryz.func37, by kernel_rfl, by kernel_rfl⟩
theorem fnOk38 : FnOk Tryz.prog 38 Tryz.f38 := ⟨Tryz.func38, by kernel_rfl, by kernel_rfl⟩
theorem fnOk39 : FnOk Tryz.prog 39 Tryz.f39 := ⟨Tryz.func39, by kernel_rfl, by kernel_rfl⟩
theorem fnOk41 : FnOk Tryz.prog 41 Tryz.f41 := ⟨Tryz.func41, by kernel_rfl, by kernel_rfl⟩
theorem fnOk42 : FnOk Tryz.prog 42 Tryz.f42 := ⟨Tryz.func42, by kernel_rfl, by kernel_rfl⟩
theorem fnOk46 : FnOk Tryz.prog 46 Tryz.f46 := ⟨Tryz.func46, by kernel_rfl, by kernel_rfl⟩
theorem fnOk47 : FnOk Tryz.prog 47 Tryz.f47 := ⟨Tryz.func47, by kernel_rfl, by kernel_rfl⟩
theorem fnOk48 : FnOk Tryz.prog 48 Tryz.f48 := ⟨Tryz.func48, by kernel_rfl, by kernel_rfl⟩
theorem fnOk50 : FnOk Tryz.prog 50 Tryz.f50 := ⟨Tryz.func50, by kernel_rfl, by kernel_rfl⟩
theorem fnOk51 : FnOk Tryz.prog 51 Tryz.f51 := ⟨Tryz.func51, by kernel_rfl, by kernel_rfl⟩
theorem fnOk53 : FnOk Tryz.prog 53 Tryz.f53 := ⟨Tryz.func53, by kernel_rfl, by kernel_rfl⟩
theorem fnOk61 : FnOk Tryz.prog 61 Tryz.f61 := ⟨Tryz.func61, by kernel_rfl, by kernel_rfl⟩
theorem fnOk62 : FnOk Tryz.prog 62 Tryz.f62 := ⟨Tryz.func62, by kernel_rfl, by kernel_rfl⟩
theorem fnOk65 : FnOk Tryz.prog 65 Tryz.f65 := ⟨Tryz.func65, by kernel_rfl, by kernel_rfl⟩
theorem fnOk66 : FnOk Tryz.prog 66 Tryz.f66 := ⟨Tryz.func66, by kernel_rfl, by kernel_rfl⟩
theorem fnOk67 : FnOk Tryz.prog 67 Tryz.f67 := ⟨Tryz.func67, by kernel_rfl, by kernel_rfl⟩
theorem fnOk68 : FnOk Tryz.prog 68 Tryz.f68 := ⟨Tryz.func68, by kernel_rfl, by kernel_rfl⟩
theorem fnOk69 : FnOk Tryz.prog 69 Tryz.f69 := ⟨Tryz.func69, by kernel_rfl, by kernel_rfl⟩
theorem fnOk71 : FnOk Tryz.prog 71 Tryz.f71 := ⟨Tryz.func71, by kernel_rfl, by kernel_rfl⟩
theorem fnOk72 : FnOk Tryz.prog 72 Tryz.f72 := ⟨Tryz.func72, by kernel_rfl, by kernel_rfl⟩
theorem fnOk73 : FnOk Tryz.prog 73 Tryz.f73 := ⟨Tryz.func73, by kernel_rfl, by kernel_rfl⟩
theorem fnOk75 : FnOk Tryz.prog 75 Tryz.f75 := ⟨Tryz.func75, by kernel_rfl, by kernel_rfl⟩
theorem fnOk80 : FnOk Tryz.prog 80 Tryz.f80 := ⟨Tryz.func80, by kernel_rfl, by kernel_rfl⟩
theorem fnOk81 : FnOk Tryz.prog 81 Tryz.f81 := ⟨Tryz.func81, by kernel_rfl, by kernel_rfl⟩
theorem fnOk82 : FnOk Tryz.prog 82 Tryz.f82 := ⟨Tryz.func82, by kernel_rfl, by kernel_rfl⟩
theorem fnOk83 : FnOk Tryz.prog 83 Tryz.f83 := ⟨Tryz.func83, by kernel_rfl, by kernel_rfl⟩
theorem fnOk86 : FnOk Tryz.prog 86 Tryz.f86 := ⟨Tryz.func86, by kernel_rfl, by kernel_rfl⟩
theorem fnOk87 : FnOk Tryz.prog 87 Tryz.f87 := ⟨Tryz.func87, by kernel_rfl, by kernel_rfl⟩
theorem fnOk89 : FnOk Tryz.prog 89 Tryz.f89 := ⟨Tryz.func89, by kernel_rfl, by kernel_rfl⟩
theorem fnOk103 : FnOk Tryz.prog 103 Tryz.f103 := ⟨Tryz.func103, by kernel_rfl, by kernel_rfl⟩
theorem fnOk111 : FnOk Tryz.prog 111 Tryz.f111 := ⟨Tryz.func111, by kernel_rfl, by kernel_rfl⟩
theorem fnOk112 : FnOk Tryz.prog 112 Tryz.f112 := ⟨Tryz.func112, by kernel_rfl, by kernel_rfl⟩
theorem fnOk114 : FnOk Tryz.prog 114 Tryz.f114 := ⟨Tryz.func114, by kernel_rfl, by kernel_rfl⟩
theorem fnOk115 : FnOk Tryz.prog 115 Tryz.f115 := ⟨Tryz.func115, by kernel_rfl, by kernel_rfl⟩
theorem fnOk116 : FnOk Tryz.prog 116 Tryz.f116 := ⟨Tryz.func116, by kernel_rfl, by kernel_rfl⟩
theorem fnOk117 : FnOk Tryz.prog 117 Tryz.f117 := ⟨Tryz.func117, by kernel_rfl, by kernel_rfl⟩
theorem fnOk118 : FnOk Tryz.prog 118 Tryz.f118 := ⟨Tryz.func118, by kernel_rfl, by kernel_rfl⟩
theorem fnOk120 : FnOk Tryz.prog 120 Tryz.f120 := ⟨Tryz.func120, by kernel_rfl, by kernel_rfl⟩
theorem fnOk121 : FnOk Tryz.prog 121 Tryz.f121 := ⟨Tryz.func121, by kernel_rfl, by kernel_rfl⟩
theorem fnOk122 : FnOk Tryz.prog 122 Tryz.f122 := ⟨Tryz.func122, by kernel_rfl, by kernel_rfl⟩
theorem fnOk123 : FnOk Tryz.prog 123 Tryz.f123 := ⟨Tryz.func123, by kernel_rfl, by kernel_rfl⟩
theorem fnOk124 : FnOk Tryz.prog 124 Tryz.f124 := ⟨Tryz.func124, by kernel_rfl, by kernel_rfl⟩
theorem fnOk125 : FnOk Tryz.prog 125 Tryz.f125 := ⟨Tryz.func125, by kernel_rfl, by kernel_rfl⟩
theorem fnOk126 : FnOk Tryz.prog 126 Tryz.f126 := ⟨Tryz.func126, by kernel_rfl, by kernel_rfl⟩
theorem fnOk127 : FnOk Tryz.prog 127 Tryz.f127 := ⟨Tryz.func127, by kernel_rfl, by kernel_rfl⟩
theorem fnOk129 : FnOk Tryz.prog 129 Tryz.f129 := ⟨Tryz.func129, by kernel_rfl, by kernel_rfl⟩
theorem fnOk130 : FnOk Tryz.prog 130 Tryz.f130 := ⟨Tryz.func130, by kernel_rfl, by kernel_rfl⟩
theorem fnOk137 : FnOk Tryz.prog 137 Tryz.f137 := ⟨Tryz.func137, by kernel_rfl, by kernel_rfl⟩
theorem fnOk138 : FnOk Tryz.prog 138 Tryz.f138 := ⟨Tryz.func138, by kernel_rfl, by kernel_rfl⟩
theorem fnOk139 : FnOk Tryz.prog 139 Tryz.f139 := ⟨Tryz.func139, by kernel_rfl, by kernel_rfl⟩
theorem fnOk140 : FnOk Tryz.prog 140 Tryz.f140 := ⟨Tryz.func140, by kernel_rfl, by kernel_rfl⟩
theorem fnOk141 : FnOk Tryz.prog 141 Tryz.f141 := ⟨Tryz.func141, by kernel_rfl, by kernel_rfl⟩
theorem fnOk142 : FnOk Tryz.prog 142 Tryz.f142 := ⟨Tryz.func142, by kernel_rfl, by kernel_rfl⟩
theorem fnOk143 : FnOk Tryz.prog 143 Tryz.f143 := ⟨Tryz.func143, by kernel_rfl, by kernel_rfl⟩
theorem fnOk145 : FnOk Tryz.prog 145 Tryz.f145 := ⟨Tryz.func145, by kernel_rfl, by kernel_rfl⟩
theorem fnOk151 : FnOk Tryz.prog 151 Tryz.f151 := ⟨Tryz.func151, by kernel_rfl, by kernel_rfl⟩
theorem fnOk152 : FnOk Tryz.prog 152 Tryz.f152 := ⟨Tryz.func152, by kernel_rfl, by kernel_rfl⟩
theorem fnOk154 : FnOk Tryz.prog 154 Tryz.f154 := ⟨Tryz.func154, by kernel_rfl, by kernel_rfl⟩
theorem fnOk156 : FnOk Tryz.prog 156 Tryz.f156 := ⟨Tryz.func156, by kernel_rfl, by kernel_rfl⟩
theorem fnOk157 : FnOk Tryz.prog 157 Tryz.f157 := ⟨Tryz.func157, by kernel_rfl, by kernel_rfl⟩
theorem fnOk158 : FnOk Tryz.prog 158 Tryz.f158 := ⟨Tryz.func158, by kernel_rfl, by kernel_rfl⟩
theorem fnOk159 : FnOk Tryz.prog 159 Tryz.f159 := ⟨Tryz.func159, by kernel_rfl, by kernel_rfl⟩
theorem fnOk160 : FnOk Tryz.prog 160 Tryz.f160 := ⟨Tryz.func160, by kernel_rfl, by kernel_rfl⟩
theorem fnOk163 : FnOk Tryz.prog 163 Tryz.f163 := ⟨Tryz.func163, by kernel_rfl, by kernel_rfl⟩
theorem fnOk173 : FnOk Tryz.prog 173 Tryz.f173 := ⟨Tryz.func173, by kernel_rfl, by kernel_rfl⟩
theorem fnOk183 : FnOk Tryz.prog 183 Tryz.f183 := ⟨Tryz.func183, by kernel_rfl, by kernel_rfl⟩
theorem fnOk187 : FnOk Tryz.prog 187 Tryz.f187 := ⟨Tryz.func187, by kernel_rfl, by kernel_rfl⟩
theorem fnOk191 : FnOk Tryz.prog 191 Tryz.f191 := ⟨Tryz.func191, by kernel_rfl, by kernel_rfl⟩
theorem fnOk193 : FnOk Tryz.prog 193 Tryz.f193 := ⟨Tryz.func193, by kernel_rfl, by kernel_rfl⟩
theorem fnOk196 : FnOk Tryz.prog 196 Tryz.f196 := ⟨Tryz.func196, by kernel_rfl, by kernel_rfl⟩
theorem fnOk197 : FnOk Tryz.prog 197 Tryz.f197 := ⟨Tryz.func197, by kernel_rfl, by kernel_rfl⟩
theorem fnOk198 : FnOk Tryz.prog 198 Tryz.f198 := ⟨Tryz.func198, by kernel_rfl, by kernel_rfl⟩
theorem fnOk199 : FnOk Tryz.prog 199 Tryz.f199 := ⟨Tryz.func199, by kernel_rfl, by kernel_rfl⟩
theorem fnOk200 : FnOk Tryz.prog 200 Tryz.f200 := ⟨Tryz.func200, by kernel_rfl, by kernel_rfl⟩
theorem fnOk201 : FnOk Tryz.prog 201 Tryz.f201 := ⟨Tryz.func201, by kernel_rfl, by kernel_rfl⟩
theorem fnOk216 : FnOk Tryz.prog 216 Tryz.f216 := ⟨Tryz.func216, by kernel_rfl, by kernel_rfl⟩
theorem fnOk220 : FnOk Tryz.prog 220 Tryz.f220 := ⟨Tryz.func220, by kernel_rfl, by kernel_rfl⟩
theorem fnOk221 : FnOk Tryz.prog 221 Tryz.f221 := ⟨Tryz.func221, by kernel_rfl, by kernel_rfl⟩
theorem fnOk224 : FnOk Tryz.prog 224 Tryz.f224 := ⟨Tryz.func224, by kernel_rfl, by kernel_rfl⟩
theorem fnOk228 : FnOk Tryz.prog 228 Tryz.f228 := ⟨Tryz.func228, by kernel_rfl, by kernel_rfl⟩
theorem fnOk229 : FnOk Tryz.prog 229 Tryz.f229 := ⟨Tryz.func229, by kernel_rfl, by kernel_rfl⟩
theorem fnOk244 : FnOk Tryz.prog 244 Tryz.f244 := ⟨Tryz.func244, by kernel_rfl, by kernel_rfl⟩
theorem fnOk251 : FnOk Tryz.prog 251 Tryz.f251 := ⟨Tryz.func251, by kernel_rfl, by kernel_rfl⟩
theorem fnOk252 : FnOk Tryz.prog 252 Tryz.f252 := ⟨Tryz.func252, by kernel_rfl, by kernel_rfl⟩
theorem fnOk254 : FnOk Tryz.prog 254 Tryz.f254 := ⟨Tryz.func254, by kernel_rfl, by kernel_rfl⟩
theorem fnOk255 : FnOk Tryz.prog 255 Tryz.f255 := ⟨Tryz.func255, by kernel_rfl, by kernel_rfl⟩
theorem fnOk256 : FnOk Tryz.prog 256 Tryz.f256 := ⟨Tryz.func256, by kernel_rfl, by kernel_rfl⟩
theorem fnOk257 : FnOk Tryz.prog 257 Tryz.f257 := ⟨Tryz.func257, by kernel_rfl, by kernel_rfl⟩
theorem fnOk258 : FnOk Tryz.prog 258 Tryz.f258 := ⟨Tryz.func258, by kernel_rfl, by kernel_rfl⟩
theorem fnOk259 : FnOk Tryz.prog 259 Tryz.f259 := ⟨Tryz.func259, by kernel_rfl, by kernel_rfl⟩
theorem fnOk260 : FnOk Tryz.prog 260 Tryz.f260 := ⟨Tryz.func260, by kernel_rfl, by kernel_rfl⟩
theorem fnOk279 : FnOk Tryz.prog 279 Tryz.f279 := ⟨Tryz.func279, by kernel_rfl, by kernel_rfl⟩
theorem fnOk280 : FnOk Tryz.prog 280 Tryz.f280 := ⟨Tryz.func280, by kernel_rfl, by kernel_rfl⟩
theorem fnOk284 : FnOk Tryz.prog 284 Tryz.f284 := ⟨Tryz.func284, by kernel_rfl, by kernel_rfl⟩
theorem fnOk285 : FnOk Tryz.prog 285 Tryz.f285 := ⟨Tryz.func285, by kernel_rfl, by kernel_rfl⟩
theorem fnOk286 : FnOk Tryz.prog 286 Tryz.f286 := ⟨Tryz.func286, by kernel_rfl, by kernel_rfl⟩
theorem fnOk287 : FnOk Tryz.prog 287 Tryz.f287 := ⟨Tryz.func287, by kernel_rfl, by kernel_rfl⟩
theorem fnOk289 : FnOk Tryz.prog 289 Tryz.f289 := ⟨Tryz.func289, by kernel_rfl, by kernel_rfl⟩
theorem fnOk297 : FnOk Tryz.prog 297 Tryz.f297 := ⟨Tryz.func297, by kernel_rfl, by kernel_rfl⟩
theorem fnOk298 : FnOk Tryz.prog 298 Tryz.f298 := ⟨Tryz.func298, by kernel_rfl, by kernel_rfl⟩
theorem fnOk312 : FnOk Tryz.prog 312 Tryz.f312 := ⟨Tryz.func312, by kernel_rfl, by kernel_rfl⟩
theorem fnOk314 : FnOk Tryz.prog 314 Tryz.f314 := ⟨Tryz.func314, by kernel_rfl, by kernel_rfl⟩
theorem fnOk316 : FnOk Tryz.prog 316 Tryz.f316 := ⟨Tryz.func316, by kernel_rfl, by kernel_rfl⟩
theorem fnOk317 : FnOk Tryz.prog 317 Tryz.f317 := ⟨Tryz.func317, by kernel_rfl, by kernel_rfl⟩
theorem fnOk318 : FnOk Tryz.prog 318 Tryz.f318 := ⟨Tryz.func318, by kernel_rfl, by kernel_rfl⟩
theorem fnOk319 : FnOk Tryz.prog 319 Tryz.f319 := ⟨Tryz.func319, by kernel_rfl, by kernel_rfl⟩
theorem fnOk320 : FnOk Tryz.prog 320 Tryz.f320 := ⟨Tryz.func320, by kernel_rfl, by kernel_rfl⟩
theorem fnOk321 : FnOk Tryz.prog 321 Tryz.f321 := ⟨Tryz.func321, by kernel_rfl, by kernel_rfl⟩
theorem fnOk336 : FnOk Tryz.prog 336 Tryz.f336 := ⟨Tryz.func336, by kernel_rfl, by kernel_rfl⟩
theorem fnOk342 : FnOk Tryz.prog 342 Tryz.f342 := ⟨Tryz.func342, by kernel_rfl, by kernel_rfl⟩
theorem fnOk343 : FnOk Tryz.prog 343 Tryz.f343 := ⟨Tryz.func343, by kernel_rfl, by kernel_rfl⟩
theorem fnOk344 : FnOk Tryz.prog 344 Tryz.f344 := ⟨Tryz.func344, by kernel_rfl, by kernel_rfl⟩
theorem fnOk345 : FnOk Tryz.prog 345 Tryz.f345 := ⟨Tryz.func345, by kernel_rfl, by kernel_rfl⟩
theorem fnOk358 : FnOk Tryz.prog 358 Tryz.f358 := ⟨Tryz.func358, by kernel_rfl, by kernel_rfl⟩
theorem fnOk359 : FnOk Tryz.prog 359 Tryz.f359 := ⟨Tryz.func359, by kernel_rfl, by kernel_rfl⟩
theorem fnOk360 : FnOk Tryz.prog 360 Tryz.f360 := ⟨Tryz.func360, by kernel_rfl, by kernel_rfl⟩
theorem fnOk375 : FnOk Tryz.prog 375 Tryz.f375 := ⟨Tryz.func375, by kernel_rfl, by kernel_rfl⟩
theorem fnOk376 : FnOk Tryz.prog 376 Tryz.f376 := ⟨Tryz.func376, by kernel_rfl, by kernel_rfl⟩
theorem fnOk377 : FnOk Tryz.prog 377 Tryz.f377 := ⟨Tryz.func377, by kernel_rfl, by kernel_rfl⟩
theorem fnOk378 : FnOk Tryz.prog 378 Tryz.f378 := ⟨Tryz.func378, by kernel_rfl, by kernel_rfl⟩
theorem fnOk403 : FnOk Tryz.prog 403 Tryz.f403 := ⟨Tryz.func403, by kernel_rfl, by kernel_rfl⟩
theorem fnOk404 : FnOk Tryz.prog 404 Tryz.f404 := ⟨Tryz.func404, by kernel_rfl, by kernel_rfl⟩
theorem fnOk405 : FnOk Tryz.prog 405 Tryz.f405 := ⟨Tryz.func405, by kernel_rfl, by kernel_rfl⟩
theorem fnOk406 : FnOk Tryz.prog 406 Tryz.f406 := ⟨Tryz.func406, by kernel_rfl, by kernel_rfl⟩
theorem fnOk416 : FnOk Tryz.prog 416 Tryz.f416 := ⟨Tryz.func416, by kernel_rfl, by kernel_rfl⟩
theorem fnOk418 : FnOk Tryz.prog 418 Tryz.f418 := ⟨Tryz.func418, by kernel_rfl, by kernel_rfl⟩
theorem fnOk428 : FnOk Tryz.prog 428 Tryz.f428 := ⟨Tryz.func428, by kernel_rfl, by kernel_rfl⟩
theorem fnOk429 : FnOk Tryz.prog 429 Tryz.f429 := ⟨Tryz.func429, by kernel_rfl, by kernel_rfl⟩
theorem fnOk430 : FnOk Tryz.prog 430 Tryz.f430 := ⟨Tryz.func430, by kernel_rfl, by kernel_rfl⟩
theorem fnOk444 : FnOk Tryz.prog 444 Tryz.f444 := ⟨Tryz.func444, by kernel_rfl, by kernel_rfl⟩
theorem fnOk445 : FnOk Tryz.prog 445 Tryz.f445 := ⟨Tryz.func445, by kernel_rfl, by kernel_rfl⟩
theorem fnOk446 : FnOk Tryz.prog 446 Tryz.f446 := ⟨Tryz.func446, by kernel_rfl, by kernel_rfl⟩
theorem fnOk447 : FnOk Tryz.prog 447 Tryz.f447 := ⟨Tryz.func447, by kernel_rfl, by kernel_rfl⟩
theorem fnOk448 : FnOk Tryz.prog 448 Tryz.f448 := ⟨Tryz.func448, by kernel_rfl, by kernel_rfl⟩
theorem fnOk449 : FnOk Tryz.prog 449 Tryz.f449 := ⟨Tryz.func449, by kernel_rfl, by kernel_rfl⟩
theorem fnOk462 : FnOk Tryz.prog 462 Tryz.f462 := ⟨Tryz.func462, by kernel_rfl, by kernel_rfl⟩
theorem fnOk463 : FnOk Tryz.prog 463 Tryz.f463 := ⟨Tryz.func463, by kernel_rfl, by kernel_rfl⟩
theorem fnOk464 : FnOk Tryz.prog 464 Tryz.f464 := ⟨Tryz.func464, by kernel_rfl, by kernel_rfl⟩
theorem fnOk474 : FnOk Tryz.prog 474 Tryz.f474 := ⟨Tryz.func474, by kernel_rfl, by kernel_rfl⟩
theorem fnOk475 : FnOk Tryz.prog 475 Tryz.f475 := ⟨Tryz.func475, by kernel_rfl, by kernel_rfl⟩
theorem fnOk477 : FnOk Tryz.prog 477 Tryz.f477 := ⟨Tryz.func477, by kernel_rfl, by kernel_rfl⟩
theorem fnOk478 : FnOk Tryz.prog 478 Tryz.f478 := ⟨Tryz.func478, by kernel_rfl, by kernel_rfl⟩
theorem fnOk480 : FnOk Tryz.prog 480 Tryz.f480 := ⟨Tryz.func480, by kernel_rfl, by kernel_rfl⟩
theorem fnOk481 : FnOk Tryz.prog 481 Tryz.f481 := ⟨Tryz.func481, by kernel_rfl, by kernel_rfl⟩
theorem fnOk482 : FnOk Tryz.prog 482 Tryz.f482 := ⟨Tryz.func482, by kernel_rfl, by kernel_rfl⟩
theorem fnOk483 : FnOk Tryz.prog 483 Tryz.f483 := ⟨Tryz.func483, by kernel_rfl, by kernel_rfl⟩
noncomputable def fnsT : Fns := (.node 156 (Tryz.f156, false) (.node 66 (Tryz.f66, false) (.node 26 (Tryz.f26, true) (.node 14 (Tryz.f14, false) (.node 9 (Tryz.f9, true) (.node 5 (Tryz.f5, false) (.node 4 (Tryz.f4, false) (.node 3 (Tryz.f3, false) .leaf .leaf) .leaf) (.node 8 (Tryz.f8, false) (.node 6 (Tryz.f6, false) .leaf .leaf) .leaf)) (.node 12 (Tryz.f12, false) (.node 11 (Tryz.f11, false) (.node 10 (Tryz.f10, false) .leaf .leaf) .leaf) (.node 13 (Tryz.f13, false) .leaf .leaf))) (.node 20 (Tryz.f20, false) (.node 17 (Tryz.f17, false) (.node 16 (Tryz.f16, true) (.node 15 (Tryz.f15, true) .leaf .leaf) .leaf) (.node 19 (Tryz.f19, false) (.node 18 (Tryz.f18, false) .leaf .leaf) .leaf)) (.node 23 (Tryz.f23, false) (.node 22 (Tryz.f22, false) (.node 21 (Tryz.f21, false) .leaf .leaf) .leaf) (.node 24 (Tryz.f24, true) .leaf .leaf)))) (.node 41 (Tryz.f41, true) (.node 34 (Tryz.f34, false) (.node 29 (Tryz.f29, false) (.node 28 (Tryz.f28, true) (.node 27 (Tryz.f27, false) .leaf .leaf) .leaf) (.node 32 (Tryz.f32, false) (.node 30 (Tryz.f30, true) .leaf .leaf) .leaf)) (.node 38 (Tryz.f38, false) (.node 37 (Tryz.f37, false) (.node 36 (Tryz.f36, false) .leaf .leaf) .leaf) (.node 39 (Tryz.f39, false) .leaf .leaf))) (.node 51 (Tryz.f51, true) (.node 47 (Tryz.f47, true) (.node 46 (Tryz.f46, false) (.node 42 (Tryz.f42, true) .leaf .leaf) .leaf) (.node 50 (Tryz.f50, true) (.node 48 (Tryz.f48, true) .leaf .leaf) .leaf)) (.node 62 (Tryz.f62, false) (.node 61 (Tryz.f61, false) (.node 53 (Tryz.f53, false) .leaf .leaf) .leaf) (.node 65 (Tryz.f65, false) .leaf .leaf))))) (.node 118 (Tryz.f118, true) (.node 83 (Tryz.f83, false) (.node 73 (Tryz.f73, false) (.node 69 (Tryz.f69, false) (.node 68 (Tryz.f68, true) (.node 67 (Tryz.f67, true) .leaf .leaf) .leaf) (.node 72 (Tryz.f72, false) (.node 71 (Tryz.f71, false) .leaf .leaf) .leaf)) (.node 81 (Tryz.f81, false) (.node 80 (Tryz.f80, false) (.node 75 (Tryz.f75, false) .leaf .leaf) .leaf) (.node 82 (Tryz.f82, false) .leaf .leaf))) (.node 112 (Tryz.f112, false) (.node 89 (Tryz.f89, true) (.node 87 (Tryz.f87, false) (.node 86 (Tryz.f86, false) .leaf .leaf) .leaf) (.node 111 (Tryz.f111, false) (.node 103 (Tryz.f103, false) .leaf .leaf) .leaf)) (.node 116 (Tryz.f116, true) (.node 115 (Tryz.f115, true) (.node 114 (Tryz.f114, true) .leaf .leaf) .leaf) (.node 117 (Tryz.f117, true) .leaf .leaf)))) (.node 137 (Tryz.f137, false) (.node 125 (Tryz.f125, false) (.node 122 (Tryz.f122, false) (.node 121 (Tryz.f121, false) (.node 120 (Tryz.f120, false) .leaf .leaf) .leaf) (.node 124 (Tryz.f124, false) (.node 123 (Tryz.f123, false) .leaf .leaf) .leaf)) (.node 129 (Tryz.f129, false) (.node 127 (Tryz.f127, false) (.node 126 (Tryz.f126, false) .leaf .leaf) .leaf) (.node 130 (Tryz.f130, false) .leaf .leaf))) (.node 143 (Tryz.f143, true) (.node 140 (Tryz.f140, false) (.node 139 (Tryz.f139, false) (.node 138 (Tryz.f138, false) .leaf .leaf) .leaf) (.node 142 (Tryz.f142, false) (.node 141 (Tryz.f141, false) .leaf .leaf) .leaf)) (.node 152 (Tryz.f152, true) (.node 151 (Tryz.f151, true) (.node 145 (Tryz.f145, true) .leaf .leaf) .leaf) (.node 154 (Tryz.f154, false) .leaf .leaf)))))) (.node 316 (Tryz.f316, true) (.node 229 (Tryz.f229, true) (.node 196 (Tryz.f196, false) (.node 173 (Tryz.f173, false) (.node 159 (Tryz.f159, false) (.node 158 (Tryz.f158, false) (.node 157 (Tryz.f157, false) .leaf .leaf) .leaf) (.node 163 (Tryz.f163, true) (.node 160 (Tryz.f160, false) .leaf .leaf) .leaf)) (.node 191 (Tryz.f191, false) (.node 187 (Tryz.f187, true) (.node 183 (Tryz.f183, false) .leaf .leaf) .leaf) (.node 193 (Tryz.f193, false) .leaf .leaf))) (.node 216 (Tryz.f216, false) (.node 199 (Tryz.f199, false) (.node 198 (Tryz.f198, false) (.node 197 (Tryz.f197, false) .leaf .leaf) .leaf) (.node 201 (Tryz.f201, false) (.node 200 (Tryz.f200, false) .leaf .leaf) .leaf)) (.node 224 (Tryz.f224, false) (.node 221 (Tryz.f221, false) (.node 220 (Tryz.f220, false) .leaf .leaf) .leaf) (.node 228 (Tryz.f228, false) .leaf .leaf)))) (.node 279 (Tryz.f279, true) (.node 256 (Tryz.f256, true) (.node 252 (Tryz.f252, true) (.node 251 (Tryz.f251, true) (.node 244 (Tryz.f244, true) .leaf .leaf) .leaf) (.node 255 (Tryz.f255, false) (.node 254 (Tryz.f254, true) .leaf .leaf) .leaf)) (.node 259 (Tryz.f259, false) (.node 258 (Tryz.f258, false) (.node 257 (Tryz.f257, false) .leaf .leaf) .leaf) (.node 260 (Tryz.f260, true) .leaf .leaf))) (.node 289 (Tryz.f289, false) (.node 285 (Tryz.f285, false) (.node 284 (Tryz.f284, false) (.node 280 (Tryz.f280, true) .leaf .leaf) .leaf) (.node 287 (Tryz.f287, false) (.node 286 (Tryz.f286, false) .leaf .leaf) .leaf)) (.node 312 (Tryz.f312, false) (.node 298 (Tryz.f298, true) (.node 297 (Tryz.f297, true) .leaf .leaf) .leaf) (.node 314 (Tryz.f314, true) .leaf .leaf))))) (.node 416 (Tryz.f416, true) (.node 358 (Tryz.f358, true) (.node 336 (Tryz.f336, true) (.node 319 (Tryz.f319, true) (.node 318 (Tryz.f318, true) (.node 317 (Tryz.f317, false) .leaf .leaf) .leaf) (.node 321 (Tryz.f321, true) (.node 320 (Tryz.f320, true) .leaf .leaf) .leaf)) (.node 344 (Tryz.f344, false) (.node 343 (Tryz.f343, false) (.node 342 (Tryz.f342, true) .leaf .leaf) .leaf) (.node 345 (Tryz.f345, false) .leaf .leaf))) (.node 378 (Tryz.f378, false) (.node 375 (Tryz.f375, true) (.node 360 (Tryz.f360, true) (.node 359 (Tryz.f359, true) .leaf .leaf) .leaf) (.node 377 (Tryz.f377, true) (.node 376 (Tryz.f376, false) .leaf .leaf) .leaf)) (.node 405 (Tryz.f405, true) (.node 404 (Tryz.f404, true) (.node 403 (Tryz.f403, false) .leaf .leaf) .leaf) (.node 406 (Tryz.f406, false) .leaf .leaf)))) (.node 462 (Tryz.f462, true) (.node 445 (Tryz.f445, false) (.node 429 (Tryz.f429, false) (.node 428 (Tryz.f428, true) (.node 418 (Tryz.f418, true) .leaf .leaf) .leaf) (.node 444 (Tryz.f444, false) (.node 430 (Tryz.f430, false) .leaf .leaf) .leaf)) (.node 448 (Tryz.f448, false) (.node 447 (Tryz.f447, false) (.node 446 (Tryz.f446, false) .leaf .leaf) .leaf) (.node 449 (Tryz.f449, false) .leaf .leaf))) (.node 478 (Tryz.f478, false) (.node 474 (Tryz.f474, false) (.node 464 (Tryz.f464, false) (.node 463 (Tryz.f463, false) .leaf .leaf) .leaf) (.node 477 (Tryz.f477, true) (.node 475 (Tryz.f475, false) .leaf .leaf) .leaf)) (.node 482 (Tryz.f482, true) (.node 481 (Tryz.f481, true) (.node 480 (Tryz.f480, false) .leaf .leaf) .leaf) (.node 483 (Tryz.f483, true) .leaf .leaf)))))))
theorem fnsOk : fnsT.Ok Tryz.prog := ⟨fnOk156, ⟨fnOk66, ⟨fnOk26, ⟨fnOk14, ⟨fnOk9, ⟨fnOk5, ⟨fnOk4, ⟨fnOk3, trivial, trivial⟩, trivial⟩, ⟨fnOk8, ⟨fnOk6, trivial, trivial⟩, trivial⟩⟩, ⟨fnOk12, ⟨fnOk11, ⟨fnOk10, trivial, trivial⟩, trivial⟩, ⟨fnOk13, trivial, trivial⟩⟩⟩, ⟨fnOk20, ⟨fnOk17, ⟨fnOk16, ⟨fnOk15, trivial, trivial⟩, trivial⟩, ⟨fnOk19, ⟨fnOk18, trivial, trivial⟩, trivial⟩⟩, ⟨fnOk23, ⟨fnOk22, ⟨fnOk21, trivial, trivial⟩, trivial⟩, ⟨fnOk24, trivial, trivial⟩⟩⟩⟩, ⟨fnOk41, ⟨fnOk34, ⟨fnOk29, ⟨fnOk28, ⟨fnOk27, trivial, trivial⟩, trivial⟩, ⟨fnOk32, ⟨fnOk30, trivial, trivial⟩, trivial⟩⟩, ⟨fnOk38, ⟨fnOk37, ⟨fnOk36, trivial, trivial⟩, trivial⟩, ⟨fnOk39, trivial, trivial⟩⟩⟩, ⟨fnOk51, ⟨fnOk47, ⟨fnOk46, ⟨fnOk42, trivial, trivial⟩, trivial⟩, ⟨fnOk50, ⟨fnOk48, trivial, trivial⟩, trivial⟩⟩, ⟨fnOk62, ⟨fnOk61, ⟨fnOk53, trivial, trivial⟩, trivial⟩, ⟨fnOk65, trivial, trivial⟩⟩⟩⟩⟩, ⟨fnOk118, ⟨fnOk83, ⟨fnOk73, ⟨fnOk69, ⟨fnOk68, ⟨fnOk67, trivial, trivial⟩, trivial⟩, ⟨fnOk72, ⟨fnOk71, trivial, trivial⟩, trivial⟩⟩, ⟨fnOk81, ⟨fnOk80, ⟨fnOk75, trivial, trivial⟩, trivial⟩, ⟨fnOk82, trivial, trivial⟩⟩⟩, ⟨fnOk112, ⟨fnOk89, ⟨fnOk87, ⟨fnOk86, trivial, trivial⟩, trivial⟩, ⟨fnOk111, ⟨fnOk103, trivial, trivial⟩, trivial⟩⟩, ⟨fnOk116, ⟨fnOk115, ⟨fnOk114, trivial, trivial⟩, trivial⟩, ⟨fnOk117, trivial, trivial⟩⟩⟩⟩, ⟨fnOk137, ⟨fnOk125, ⟨fnOk122, ⟨fnOk121, ⟨fnOk120, trivial, trivial⟩, trivial⟩, ⟨fnOk124, ⟨fnOk123, trivial, trivial⟩, trivial⟩⟩, ⟨fnOk129, ⟨fnOk127, ⟨fnOk126, trivial, trivial⟩, trivial⟩, ⟨fnOk130, trivial, trivial⟩⟩⟩, ⟨fnOk143, ⟨fnOk140, ⟨fnOk139, ⟨fnOk138, trivial, trivial⟩, trivial⟩, ⟨fnOk142, ⟨fnOk141, trivial, trivial⟩, trivial⟩⟩, ⟨fnOk152, ⟨fnOk151, ⟨fnOk145, trivial, trivial⟩, trivial⟩, ⟨fnOk154, trivial, trivial⟩⟩⟩⟩⟩⟩, ⟨fnOk316, ⟨fnOk229, ⟨fnOk196, ⟨fnOk173, ⟨fnOk159, ⟨fnOk158, ⟨fnOk157, trivial, trivial⟩, trivial⟩, ⟨fnOk163, ⟨fnOk160, trivial, trivial⟩, trivial⟩⟩, ⟨fnOk191, ⟨fnOk187, ⟨fnOk183, trivial, trivial⟩, trivial⟩, ⟨fnOk193, trivial, trivial⟩⟩⟩, ⟨fnOk216, ⟨fnOk199, ⟨fnOk198, ⟨fnOk197, trivial, trivial⟩, trivial⟩, ⟨fnOk201, ⟨fnOk200, trivial, trivial⟩, trivial⟩⟩, ⟨fnOk224, ⟨fnOk221, ⟨fnOk220, trivial, trivial⟩, trivial⟩, ⟨fnOk228, trivial, trivial⟩⟩⟩⟩, ⟨fnOk279, ⟨fnOk256, ⟨fnOk252, ⟨fnOk251, ⟨fnOk244, trivial, trivial⟩, trivial⟩, ⟨fnOk255, ⟨fnOk254, trivial, trivial⟩, trivial⟩⟩, ⟨fnOk259, ⟨fnOk258, ⟨fnOk257, trivial, trivial⟩, trivial⟩, ⟨fnOk260, trivial, trivial⟩⟩⟩, ⟨fnOk289, ⟨fnOk285, ⟨fnOk284, ⟨fnOk280, trivial, trivial⟩, trivial⟩, ⟨fnOk287, ⟨fnOk286, trivial, trivial⟩, trivial⟩⟩, ⟨fnOk312, ⟨fnOk298, ⟨fnOk297, trivial, trivial⟩, trivial⟩, ⟨fnOk314, trivial, trivial⟩⟩⟩⟩⟩, ⟨fnOk416, ⟨fnOk358, ⟨fnOk336, ⟨fnOk319, ⟨fnOk318, ⟨fnOk317, trivial, trivial⟩, trivial⟩, ⟨fnOk321, ⟨fnOk320, trivial, trivial⟩, trivial⟩⟩, ⟨fnOk344, ⟨fnOk343, ⟨fnOk342, trivial, trivial⟩, trivial⟩, ⟨fnOk345, trivial, trivial⟩⟩⟩, ⟨fnOk378, ⟨fnOk375, ⟨fnOk360, ⟨fnOk359, trivial, trivial⟩, trivial⟩, ⟨fnOk377, ⟨fnOk376, trivial, trivial⟩, trivial⟩⟩, ⟨fnOk405, ⟨fnOk404, ⟨fnOk403, trivial, trivial⟩, trivial⟩, ⟨fnOk406, trivial, trivial⟩⟩⟩⟩, ⟨fnOk462, ⟨fnOk445, ⟨fnOk429, ⟨fnOk428, ⟨fnOk418, trivial, trivial⟩, trivial⟩, ⟨fnOk444, ⟨fnOk430, trivial, trivial⟩, trivial⟩⟩, ⟨fnOk448, ⟨fnOk447, ⟨fnOk446, trivial, trivial⟩, trivial⟩, ⟨fnOk449, trivial, trivial⟩⟩⟩, ⟨fnOk478, ⟨fnOk474, ⟨fnOk464, ⟨fnOk463, trivial, trivial⟩, trivial⟩, ⟨fnOk477, ⟨fnOk475, trivial, trivial⟩, trivial⟩⟩, ⟨fnOk482, ⟨fnOk481, ⟨fnOk480, trivial, trivial⟩, trivial⟩, ⟨fnOk483, trivial, trivial⟩⟩⟩⟩⟩⟩⟩
end Go.Dip
end

/- script.Words, by the shelf's contracts of strings.Split and slices.DeleteFunc. -/
section
set_option linter.unusedVariables false
set_option linter.unusedSimpArgs false
namespace Go.Proofs
open Go.Shelf Go.RowKit Go.Lib Go.Sort
theorem Tryz.gives11 (x : List UInt8) (W : World) : FnGives Tryz.prog 11 #[] #[encStr x] (.bool (decide (x = []))) W := by
  show Calls Tryz.prog 11 #[encStr x] W _
  unfold encStr
  go_enter Tryz.func11, Tryz.ntmps11
  go_wp2
  go_ret
  exact ⟨by cases x <;> rfl, 0, rfl⟩
theorem Tryz.enter10 : ∀ aa w, (callFunc 10 aa).run Tryz.prog w = .ok (.enter 10 aa) w := enters_of Tryz.func10 (by kernel_rfl) rfl
theorem Tryz.enter9 : ∀ aa w, (callFunc 9 aa).run Tryz.prog w = .ok (.enter 9 aa) w := enters_of Tryz.func9 (by kernel_rfl) rfl
theorem Tryz.enter11 : ∀ aa w, (callFunc 11 aa).run Tryz.prog w = .ok (.enter 11 aa) w := enters_of Tryz.func11 (by kernel_rfl) rfl
def Tryz.wparts (s : List UInt8) : List (List UInt8) := Lib.splitK [32] 0 (Lib.count s [32]) s
def Tryz.wkept (s : List UInt8) : List (List UInt8) := (Tryz.wparts s).filter fun x => !decide (x = [])
theorem Tryz.split10 (s : List UInt8) (m : Int) (w : World) (hs : s.length ≤ 1000) (hm : w.cell? ⟨0, 0, none⟩ = some (.int .i64 m)) :
    Calls Tryz.prog 10 #[encStr s, .string ⟨#[32]⟩] w fun e w' => e = .returned (.slice (some ⟨w.heap.size, 0, none⟩) (Tryz.wparts s).length (Tryz.wparts s).length) ∧ w' = w.alloc (.cells ((Tryz.wparts s).map encStr).toArray 9) := by
  refine (Any.strings_Split Tryz.lays146 (by kernel_rfl) ⟨s.toArray⟩ ⟨#[32]⟩ m w (by simp [ByteArray.size]; omega) hm (by decide)).mono ?_
  rintro e w' ⟨rfl, rfl⟩
  have hd := Lib.splitB_data ⟨#[32]⟩ 0 (Lib.countB ⟨s.toArray⟩ ⟨#[32]⟩) ⟨s.toArray⟩
  have hp : Tryz.wparts s = (Lib.splitB ⟨#[32]⟩ 0 (Lib.countB ⟨s.toArray⟩ ⟨#[32]⟩) ⟨s.toArray⟩).map (·.data.toList) := by rw [hd]; rfl
  have hl := Lib.splitB_all ⟨#[32]⟩ (by decide) 0 _ ⟨s.toArray⟩ rfl
  refine ⟨?_, ?_⟩
  · rw [hp, List.length_map, hl]
  · rw [hp, List.map_map]
    have e : (encStr ∘ fun x : ByteArray => x.data.toList) = Value.string := by
      funext x
      simp [encStr]
    rw [e]
    rfl
theorem Tryz.heap_row {w : World} {g n : Nat} {cur : Array Value} {e : TypeId} {fr : Nat × Nat} (d : Array (List UInt8)) (hb : w.heap[g]? = some (.cells cur e fr)) : (putRow encStr (Sort.ahead w n) g 0 d).heap[g]? = some (.cells (putCells encStr 0 d cur) e fr) := by
  simp [putRow, mapBlock, Array.getElem?_modify, hb, onCells]
set_option maxRecDepth 100000 in
set_option maxHeartbeats 2000000 in
theorem Tryz.words6 (s : List UInt8) (m : Int) (w : World) (hs : s.length ≤ 1000) (hm : w.cell? ⟨0, 0, none⟩ = some (.int .i64 m)) :
    Calls Tryz.prog 6 #[encStr s] w fun e w' => ∃ x, e = .returned x ∧ w'.ownsRow w.heap.size 9 1 x (Tryz.wkept s).length ((Tryz.wkept s).map encStr) ∧ Below w.heap.size w w' := by
  have h10 := Tryz.enter10
  have h9 := Tryz.enter9
  have hlen : (Tryz.wparts s).length ≤ 1002 := by
    have := Lib.splitB_length_le ⟨#[32]⟩ 0 (Lib.countB ⟨s.toArray⟩ ⟨#[32]⟩) ⟨s.toArray⟩
    have h2 : Lib.countB ⟨s.toArray⟩ ⟨#[32]⟩ ≤ s.length := by
      have := Lib.countB_le ⟨#[32]⟩ (by decide) s.length ⟨s.toArray⟩ (by simp [ByteArray.size])
      simpa [ByteArray.size] using this
    have hd := Lib.splitB_data ⟨#[32]⟩ 0 (Lib.countB ⟨s.toArray⟩ ⟨#[32]⟩) ⟨s.toArray⟩
    have hp : Tryz.wparts s = (Lib.splitB ⟨#[32]⟩ 0 (Lib.countB ⟨s.toArray⟩ ⟨#[32]⟩) ⟨s.toArray⟩).map (·.data.toList) := by rw [hd]; rfl
    rw [hp, List.length_map]
    omega
  have hH : Holds encStr (w.alloc (.cells ((Tryz.wparts s).map encStr).toArray 9)) w.heap.size 0 (Tryz.wparts s).toArray := by
    refine holds_of_block (cur := ((Tryz.wparts s).map encStr).toArray) (e := 9) (heap_alloc_new w _) ?_
    exact List.take_of_length_le (by simp)
  have hdel := AnyE.slices_DeleteFunc Tryz.delf9 encStr (fun _ => rfl) (fun x => decide (x = [])) 11 #[] Tryz.enter11 [] (by intro w; exact Tryz.zeroValue9 w) w.heap.size 0 (Tryz.wparts s).length (Tryz.wparts s).toArray (w.alloc (.cells ((Tryz.wparts s).map encStr).toArray 9))
    (fun W x _ => Tryz.gives11 x W) (fun n os dk x _ => Tryz.gives11 x _) hH (by simp; omega) (by simp)
  have hsp := Tryz.split10 s m w hs hm
  have hdel : Calls Tryz.prog 9 #[.slice (some ⟨w.heap.size, 0, none⟩) (Tryz.wparts s).length (Tryz.wparts s).length, .func (.func 11) #[] #[]] (w.alloc (.cells ((Tryz.wparts s).map encStr).toArray 9)) fun e w' => ∃ x, e = .returned x ∧ w'.ownsRow w.heap.size 9 1 x (Tryz.wkept s).length ((Tryz.wkept s).map encStr) ∧ Below w.heap.size w w' := by
    refine hdel.mono ?_
    rintro e w' ⟨rfl, q, rfl⟩
    have hk : (((Tryz.wparts s).toArray.toList.filter fun x => !decide (x = [])) ++ List.replicate ((Tryz.wparts s).toArray.size - ((Tryz.wparts s).toArray.toList.filter fun x => !decide (x = [])).length) []).length = (Tryz.wparts s).length := by
      have := List.length_filter_le (fun x => !decide (x = [])) (Tryz.wparts s)
      simp
      omega
    have hle : (Tryz.wkept s).length ≤ (Tryz.wparts s).length := List.length_filter_le _ _
    refine ⟨_, rfl, ⟨by simp, .inr ⟨w.heap.size, (Tryz.wparts s).length, _, rfl, Nat.le_refl _, Tryz.heap_row _ (heap_alloc_new w _), hle, by unfold maxLen; omega, by simp [putCells], ?_⟩⟩, ⟨rfl, rfl, rfl, by simp, fun k hk' => ?_⟩⟩
    · rw [Nat.mul_one]
      have ht := take_putCells ((Tryz.wparts s).map encStr).toArray (((Tryz.wparts s).toArray.toList.filter fun x => !decide (x = [])) ++ List.replicate ((Tryz.wparts s).toArray.size - ((Tryz.wparts s).toArray.toList.filter fun x => !decide (x = [])).length) []) (by rw [hk]; simp)
      have h2 := congrArg (List.take (Tryz.wkept s).length) ht
      rw [List.take_take, List.map_append, List.take_append_of_le_length (by simp [Tryz.wkept]), Nat.min_eq_left (by rw [hk]; exact hle)] at h2
      rw [h2]
      simp [Tryz.wkept, List.take_of_length_le]
    · have : w.heap.size ≠ k := by omega
      simp only [putRow, mapBlock, Array.getElem?_modify, this, if_false]
      show (w.alloc _).heap[k]? = _
      exact heap_alloc_old w _ hk'
  clear hH hlen
  go_enter Tryz.func6, Tryz.ntmps6
  go_wp2_with (first | (go_at_call 10; refine hsp.mono ?_; rintro e w' ⟨rfl, rfl⟩) | (go_at_call 9; refine hdel.mono ?_; rintro e w' ⟨x, rfl, hx1, hx2⟩))
  go_ret
  exact ⟨x, rfl, hx1, hx2⟩
end Go.Proofs
end
