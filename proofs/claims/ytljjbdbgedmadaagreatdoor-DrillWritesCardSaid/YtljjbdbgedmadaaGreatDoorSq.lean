/- The library's Sort, Compact and Index at integers, and CutPrefix, at this program (laid by the kit's tool and cut; begun as its output). No condition but each contract's own.
  What the reader of a line's numbers rests on: where the number ends, the library's Atoi, cutting a prefix off, and the patterns. Conditions: lines of at most 10^9 bytes. -/
import Derived.Shelf.Sort.Plain
import Derived.Ground.Names2Prog
import Derived.Shelf.Slices.CompactI
import Derived.Shelf.Slices.SearchI
import Derived.Shelf.Slices.Turned
import Derived.Shelf.Slices.Cells
import Derived.Shelf.Slices.In.SortNone
import Derived.Shelf.Small.Strs
import Derived.Shelf.Strings.Prefix
import Derived.Shelf.Small.Wraps
import Derived.Test.YtljjbdbgedmadaaGreatDoorProg
import Derived.Test.YtljjbdbgedmadaaGreatDoorHs
import Derived.Test.YtljjbdbgedmadaaGreatDoorDrA
import Derived.Laws.RangeAny
import Derived.Lib.AtoiErrMem
set_option maxHeartbeats 1000000
set_option maxRecDepth 100000
namespace Go.Proofs
open Go.Shelf
def Tryz.lays189_ren : Go.Shelf.Ren := ⟨fun | 189 => 43 | 125 => 96 | 257 => 95 | 128 => 155 | 129 => 156 | 294 => 146 | 295 => 147 | 296 => 148 | 297 => 149 | 298 => 150 | 299 => 151 | 216 => 152 | 300 => 153 | 301 => 154 | 328 => 178 | 329 => 179 | 330 => 180 | 331 => 181 | 332 => 182 | 215 => 165 | 343 => 203 | n => n, fun | 28 => 83 | 3 => 3 | 46 => 186 | 0 => 0 | 51 => 273 | 53 => 275 | 4 => 4 | 183 => 266 | 182 => 265 | 131 => 270 | 5 => 5 | 9 => 9 | 218 => 294 | 222 => 298 | 228 => 307 | 229 => 291 | n => n, fun | n => n⟩
theorem Tryz.lays189 : Go.Proofs.Lays.n189 Tryz.prog Tryz.lays189_ren := {
 mixed := by kernel_rfl
 f125 := Tryz.func96.trans (congrArg some (by kernel_rfl))
 f128 := Tryz.func155.trans (congrArg some (by kernel_rfl))
 f129 := Tryz.func156.trans (congrArg some (by kernel_rfl))
 f189 := Tryz.func43.trans (congrArg some (by kernel_rfl))
 f215 := Tryz.func165.trans (congrArg some (by kernel_rfl))
 f216 := Tryz.func152.trans (congrArg some (by kernel_rfl))
 f257 := Tryz.func95.trans (congrArg some (by kernel_rfl))
 f294 := Tryz.func146.trans (congrArg some (by kernel_rfl))
 f295 := Tryz.func147.trans (congrArg some (by kernel_rfl))
 f296 := Tryz.func148.trans (congrArg some (by kernel_rfl))
 f297 := Tryz.func149.trans (congrArg some (by kernel_rfl))
 f298 := Tryz.func150.trans (congrArg some (by kernel_rfl))
 f299 := Tryz.func151.trans (congrArg some (by kernel_rfl))
 f300 := Tryz.func153.trans (congrArg some (by kernel_rfl))
 f301 := Tryz.func154.trans (congrArg some (by kernel_rfl))
 f328 := Tryz.func178.trans (congrArg some (by kernel_rfl))
 f329 := Tryz.func179.trans (congrArg some (by kernel_rfl))
 f330 := Tryz.func180.trans (congrArg some (by kernel_rfl))
 f331 := Tryz.func181.trans (congrArg some (by kernel_rfl))
 f332 := Tryz.func182.trans (congrArg some (by kernel_rfl))
 f343 := Tryz.func203.trans (congrArg some (by kernel_rfl))
 t0 := Tryz.underlying0
 a0 := Tryz.isAgg0
 z0 := Tryz.sizeOf0
 v0 := Tryz.zeroValue0
 t3 := Tryz.underlying3
 a3 := Tryz.isAgg3
 z3 := Tryz.sizeOf3
 v3 := Tryz.zeroValue3
 t4 := Tryz.underlying4
 a4 := Tryz.isAgg4
 z4 := Tryz.sizeOf4
 v4 := Tryz.zeroValue4
 t5 := Tryz.underlying5
 a5 := Tryz.isAgg5
 z5 := Tryz.sizeOf5
 v5 := Tryz.zeroValue5
 t9 := Tryz.underlying9
 a9 := Tryz.isAgg9
 z9 := Tryz.sizeOf9
 v9 := Tryz.zeroValue9
 t28 := Tryz.underlying83
 a28 := Tryz.isAgg83
 z28 := Tryz.sizeOf83
 v28 := Tryz.zeroValue83
 t46 := Tryz.underlying186
 a46 := Tryz.isAgg186
 z46 := Tryz.sizeOf186
 v46 := Tryz.zeroValue186
 t51 := Tryz.underlying273
 a51 := Tryz.isAgg273
 z51 := Tryz.sizeOf273
 v51 := Tryz.zeroValue273
 t53 := Tryz.underlying275
 a53 := Tryz.isAgg275
 z53 := Tryz.sizeOf275
 v53 := Tryz.zeroValue275
 t131 := Tryz.underlying270
 a131 := Tryz.isAgg270
 z131 := Tryz.sizeOf270
 v131 := Tryz.zeroValue270
 t182 := Tryz.underlying265
 a182 := Tryz.isAgg265
 z182 := Tryz.sizeOf265
 v182 := Tryz.zeroValue265
 t183 := Tryz.underlying266
 a183 := Tryz.isAgg266
 z183 := Tryz.sizeOf266
 v183 := Tryz.zeroValue266
 t218 := Tryz.underlying294
 a218 := Tryz.isAgg294
 z218 := Tryz.sizeOf294
 v218 := Tryz.zeroValue294
 t222 := Tryz.underlying298
 a222 := Tryz.isAgg298
 z222 := Tryz.sizeOf298
 v222 := Tryz.zeroValue298
 t228 := Tryz.underlying307
 a228 := Tryz.isAgg307
 z228 := Tryz.sizeOf307
 v228 := Tryz.zeroValue307
 t229 := Tryz.underlying291
 a229 := Tryz.isAgg291
 z229 := Tryz.sizeOf291
 v229 := Tryz.zeroValue291 }
open Go.Sort Go.RowKit in
theorem Tryz.slices_Sort_int (blk off cap : Nat) (zs : List Int) (w : World) (hH : Holds (Value.int .i64) w blk off zs.toArray) (hblk : blk < w.heap.size) (hsz : zs.length < 4611686018427387904) :
 Calls Tryz.prog 43 #[.slice (some ⟨blk, off, none⟩) zs.length cap] w fun e w' =>
 e = .returned (.tuple #[]) ∧ ∃ n os, w' = grow (putRow (Value.int .i64) (Sort.ahead w n) blk off (zs.mergeSort fun x y => decide (x ≤ y)).toArray) os := Any.slices_Sort_int Tryz.lays189 blk off cap zs w hH hblk hsz
def Tryz.lays108_ren : Go.Shelf.Ren := ⟨fun | 108 => 47 | n => n, fun | 28 => 83 | 3 => 3 | 0 => 0 | 4 => 4 | n => n, fun | n => n⟩
theorem Tryz.lays108 : Go.Proofs.Lays.n108 Tryz.prog Tryz.lays108_ren := {
 mixed := by kernel_rfl
 f108 := Tryz.func47.trans (congrArg some (by kernel_rfl))
 t0 := Tryz.underlying0
 a0 := Tryz.isAgg0
 z0 := Tryz.sizeOf0
 v0 := Tryz.zeroValue0
 t3 := Tryz.underlying3
 a3 := Tryz.isAgg3
 z3 := Tryz.sizeOf3
 v3 := Tryz.zeroValue3
 t4 := Tryz.underlying4
 a4 := Tryz.isAgg4
 z4 := Tryz.sizeOf4
 v4 := Tryz.zeroValue4
 t28 := Tryz.underlying83
 a28 := Tryz.isAgg83
 z28 := Tryz.sizeOf83
 v28 := Tryz.zeroValue83 }
def Tryz.laysNm220_ren : Go.Shelf.Ren := ⟨fun | 20 => 44 | n => n, fun | 22 => 83 | 3 => 3 | 4 => 4 | 0 => 0 | n => n, fun | n => n⟩
theorem Tryz.laysNm220 : Go.Proofs.Lays2.n20 Tryz.prog Tryz.laysNm220_ren := {
 mixed := by kernel_rfl
 f20 := Tryz.func44.trans (congrArg some (by kernel_rfl))
 t0 := Tryz.underlying0
 a0 := Tryz.isAgg0
 z0 := Tryz.sizeOf0
 v0 := Tryz.zeroValue0
 t3 := Tryz.underlying3
 a3 := Tryz.isAgg3
 z3 := Tryz.sizeOf3
 v3 := Tryz.zeroValue3
 t4 := Tryz.underlying4
 a4 := Tryz.isAgg4
 z4 := Tryz.sizeOf4
 v4 := Tryz.zeroValue4
 t22 := Tryz.underlying83
 a22 := Tryz.isAgg83
 z22 := Tryz.sizeOf83
 v22 := Tryz.zeroValue83
 i3 := by kernel_rfl }
open Go.RowKit Go.Lib Go.Sort in
theorem Tryz.slices_Compact_int (blk off cap : Nat) (zs : List Int) (w : World) (hH : Holds (Value.int .i64) w blk off zs.toArray) (hsz : zs.length ≤ 9223372036854775807) (hcap : zs.length ≤ cap) :
 Calls Tryz.prog 44 #[.slice (some ⟨blk, off, none⟩) zs.length cap] w fun e w' => e = .returned (.slice (some ⟨blk, off, none⟩) (Lib.compact zs).length cap) ∧ ∃ q, w' = putRow (Value.int .i64) (Sort.ahead w q) blk off (Lib.compact zs ++ List.replicate (zs.length - (Lib.compact zs).length) 0).toArray := Any.slices_Compact_int Tryz.laysNm220 blk off cap zs w hH hsz hcap
open Go.RowKit Go.Lib Go.Sort in
theorem Tryz.slices_Compact_int_empty (a : Option Addr) (cap : Nat) (w : World) :
 Calls Tryz.prog 44 #[.slice a 0 cap] w fun e w' => e = .returned (.slice a 0 cap) ∧ w' = w := Any.slices_Compact_int_empty Tryz.laysNm220 a cap w
open Go.RowKit Go.Sort in
theorem Tryz.slices_Sort_int_none (p : Option Addr) (cap : Nat) (w : World) :
 Calls Tryz.prog 43 #[.slice p 0 cap] w fun e w' => e = .returned (.tuple #[]) ∧ w' = w := Any.slices_Sort_int_none Tryz.lays189 p cap w
open Go.RowKit Go.Lib in
theorem Tryz.slices_Index_int (b off n c : Nat) (zs : List Int) (x : Int) (w : World) (hz : n ≤ zs.length) (hbig : n ≤ 9223372036854775807) (hc : ∀ j, j < zs.length → w.cell? ⟨b, off + j, none⟩ = some (.int .i64 (zs.getD j 0))) :
 Calls Tryz.prog 47 #[.slice (some ⟨b, off, none⟩) n c, .int .i64 x] w fun e w' => e = .returned (.int .i64 (Lib.idxOf (zs.take n) x)) ∧ w' = w := Any.slices_Index_int Tryz.lays108 b off n c zs x w hz hbig hc
def Tryz.lays103_ren : Go.Shelf.Ren := ⟨fun | 103 => 218 | 210 => 244 | 206 => 262 | n => n, fun | 9 => 9 | 4 => 4 | 24 => 318 | 3 => 3 | n => n, fun | n => n⟩
theorem Tryz.lays103 : Go.Proofs.Lays.n103 Tryz.prog Tryz.lays103_ren := {
 mixed := by kernel_rfl
 f103 := Tryz.func218.trans (congrArg some (by kernel_rfl))
 f206 := Tryz.func262.trans (congrArg some (by kernel_rfl))
 f210 := Tryz.func244.trans (congrArg some (by kernel_rfl))
 t3 := Tryz.underlying3
 a3 := Tryz.isAgg3
 z3 := Tryz.sizeOf3
 v3 := Tryz.zeroValue3
 t4 := Tryz.underlying4
 a4 := Tryz.isAgg4
 z4 := Tryz.sizeOf4
 v4 := Tryz.zeroValue4
 t9 := Tryz.underlying9
 a9 := Tryz.isAgg9
 z9 := Tryz.sizeOf9
 v9 := Tryz.zeroValue9
 t24 := Tryz.underlying318
 a24 := Tryz.isAgg318
 z24 := Tryz.sizeOf318
 v24 := Tryz.zeroValue318 }
open Go.RowKit in
theorem Tryz.strings_CutPrefix (s p : ByteArray) (w : World) :
 Calls Tryz.prog 218 #[.string s, .string p] w fun e w' => e = .returned (.tuple #[.string ⟨(Lib.trimPrefix s.data.toList p.data.toList).toArray⟩, .bool (Lib.hasPrefix s.data.toList p.data.toList)]) ∧ w' = w := Any.strings_CutPrefix Tryz.lays103 s p w
end Go.Proofs
namespace Go.Proofs.YtljjbdbgedmadaaGreatDoor
open Go.RowKit
theorem size_str (s : List UInt8) : (⟨s.toArray⟩ : ByteArray).size = s.length := by show s.toArray.size = _; simp
theorem data_str (s : List UInt8) : (⟨s.toArray⟩ : ByteArray).data.toList = s := rfl
theorem parse_ok {s : List UInt8} {v : Int} (h : Lib.atoiAll s = .ok v) : Wr.parse s = if Lib.itoa v = s then some v else none := by unfold Wr.parse; rw [h]
theorem parse_no {s : List UInt8} (h : ∀ v, Lib.atoiAll s ≠ .ok v) : Wr.parse s = none := by
 unfold Wr.parse
 split
 ·rename_i v hv; exact absurd hv (h v)
 ·rfl
theorem atoi_yes (s : List UInt8) (v : Int) (w : World) (hs : s.length ≤ 281474976710656) (h : Lib.atoiAll s = .ok v) : Calls Tryz.prog 216 #[str s] w fun e w' => e = .returned (.tuple #[.int .i64 v, .nilIface]) ∧ Kp w w' none := by
 refine (Tryz.strconv_Atoi_ok ⟨s.toArray⟩ (by rw [size_str]; omega) v h w).mono ?_
 rintro e w' ⟨rfl, hw⟩; refine ⟨rfl, ?_⟩
 rcases hw with rfl | ⟨t, rfl⟩
 ·exact Kp.refl _ _
 ·exact Kp.of_below (Lib.bytesWorld_below _ _ _)
theorem atoi_no (s : List UInt8) (w : World) (he : Env w) (hs : s.length ≤ 281474976710656) (hno : ∀ v, Lib.atoiAll s ≠ .ok v) : Calls Tryz.prog 216 #[str s] w fun e w' => (∃ v N, e = .returned (.tuple #[.int .i64 v, .iface 345 (.pointer (some ⟨N, 0, none⟩))])) ∧ Kp w w' none := by
 have hs' : (⟨s.toArray⟩ : ByteArray).size ≤ 281474976710656 := by rw [size_str]; exact hs
 cases h : Lib.atoiAll s
 ·exact absurd h (hno _)
 ·obtain ⟨tp, p, hv⟩ := he.syn
  refine (Tryz.strconv_Atoi_no_var ⟨s.toArray⟩ hs' (by rw [data_str, h]; intro v' e; cases e) (by rw [data_str, h]; intro e; cases e) tp p w hv).mono ?_
  rintro e w' ⟨N, rfl, _, _, hb⟩; exact ⟨⟨_, N, rfl⟩, Kp.of_below hb⟩
 ·obtain ⟨tp, p, hv⟩ := he.rng
  refine (Tryz.strconv_Atoi_range_var ⟨s.toArray⟩ hs' h tp p w hv).mono ?_
  rintro e w' ⟨N, rfl, _, _, hb⟩; exact ⟨⟨_, N, rfl⟩, Kp.of_below hb⟩
theorem itoa64 (n : Int) (w : World) (he : Env w) (hn : Wr.I64 n) : Calls Tryz.prog 98 #[.int .i64 n] w fun e w' => e = .returned (str (Lib.itoa n)) ∧ Kp w w' none := by
 refine (Tryz.strconv_Itoa n hn.1 hn.2 w he.tab).mono ?_
 rintro e w' ⟨rfl, k, os, rfl⟩; exact ⟨rfl, Kp.of_below (Lib.below_grow _ w (Nat.le_refl _) k os)⟩
/-! ### Where a number ends -/
def notNum (x : Nat) : Bool := !(decide (x = 45) || decide (48 ≤ x ∧ x ≤ 57))
theorem numC_nat (c : UInt8) : notNum c.toNat = !(Dl.numC c) := by
 unfold notNum Dl.numC
 congr 1
 congr 1
 rw [Bool.eq_iff_iff]; simp only [decide_eq_true_eq, beq_iff_eq]
 constructor
 ·intro h; exact UInt8.toNat_inj.1 (by simpa using h)
 ·rintro rfl; rfl
theorem numC_high {c : UInt8} (h : 128 ≤ c.toNat) : Dl.numC c = false := by
 have := numC_nat c
 unfold notNum at this; rw [decide_eq_false (by omega), decide_eq_false (by omega)] at this
 simpa using this.symm
theorem closure215 (x : Nat) (hx : x ≤ 1114111) (W : World) : Calls Tryz.prog 215 #[.int .i32 (x : Int)] W fun e w' => e = .returned (.bool (notNum x)) ∧ Below W.heap.size W w' := by
 obtain ⟨b, hb⟩ : ∃ b, notNum x = b := ⟨_, rfl⟩
 have hx0 : (0 : Int) ≤ (x : Int) := Int.natCast_nonneg _
 rw [hb]; unfold notNum at hb
 by_cases h1 : x = 45
 ·subst h1; have hb : b = false := by rw [← hb]; rfl
  subst hb; go_enter Tryz.func215, Tryz.ntmps215
  go_wp2
  go_ret
  exact ⟨rfl, Below.refl _ _⟩
 ·have h1b : ((x : Int) == 45) = false := by simp; omega
  have h1c : ((x : Int) != 45) = true := by simp; omega
  by_cases h2 : x < 48
  ·have hb : b = true := by rw [← hb, decide_eq_false h1, decide_eq_false (by omega)]; rfl
   subst hb; have h2i : (x : Int) < 48 := by omega
   clear h1; go_enter Tryz.func215, Tryz.ntmps215
   go_wp2
   go_ret
   exact ⟨rfl, Below.refl _ _⟩
  ·have h2i : ¬ (x : Int) < 48 := by omega
   by_cases h3 : x ≤ 57
   ·have hb : b = false := by rw [← hb, decide_eq_false h1, decide_eq_true (by omega)]; rfl
    subst hb; have h3i : ¬ (57 : Int) < (x : Int) := by omega
    clear h1; go_enter Tryz.func215, Tryz.ntmps215
    go_wp2
    go_ret
    exact ⟨rfl, Below.refl _ _⟩
   ·have hb : b = true := by rw [← hb, decide_eq_false h1, decide_eq_false (by omega)]; rfl
    subst hb; have h3i : (57 : Int) < (x : Int) := by omega
    clear h1; go_enter Tryz.func215, Tryz.ntmps215
    go_wp2
    go_ret
    exact ⟨rfl, Below.refl _ _⟩
theorem idxFrom_num (l : List UInt8) : ∀ (f pos : Nat), l.length ≤ pos + f → pos ≤ l.length → Lib.idxFuncFrom notNum true ⟨l.toArray⟩ f pos = if pos + ((l.drop pos).takeWhile Dl.numC).length < l.length then ((pos + ((l.drop pos).takeWhile Dl.numC).length : Nat) : Int) else -1
 | 0, pos, hf, hp => by
  have : pos = l.length := by omega
  subst this; simp [Lib.idxFuncFrom]
 | f + 1, pos, hf, hp => by
  have hsz : (⟨l.toArray⟩ : ByteArray).size = l.length := size_str l
  by_cases hps : pos < l.length
  ·have hps' : pos < (⟨l.toArray⟩ : ByteArray).size := by rw [hsz]; exact hps
   have hget : (⟨l.toArray⟩ : ByteArray)[pos]'hps' = l[pos] := by
    show l.toArray[pos]'(by simpa using hps) = l[pos]
    simp
   rw [Lib.idxFuncFrom, if_pos hps', List.drop_eq_getElem_cons hps]
   by_cases h128 : (l[pos]).toNat < 128
   ·rw [decode_ascii _ pos hps' (by rw [hget]; exact h128)]
    dsimp only; rw [hget, numC_nat]
    cases hc : Dl.numC l[pos] with
    | false =>
     rw [List.takeWhile_cons_of_neg (by rw [hc]; simp)]
     simp [hps]
    | true =>
     simp only [Bool.not_true, Bool.false_eq_true, if_false]
     rw [idxFrom_num l f (pos + 1) (by omega) (by omega), List.takeWhile_cons_of_pos hc, List.length_cons]; rw [show pos + 1 + ((l.drop (pos + 1)).takeWhile Dl.numC).length = pos + (((l.drop (pos + 1)).takeWhile Dl.numC).length + 1) by omega]
   ·have hd := decode_high _ pos hps' (by rw [hget]; omega)
    have hn : notNum (Utf8.decode ⟨l.toArray⟩ pos).1 = true := by unfold notNum; rw [decide_eq_false (by omega), decide_eq_false (by omega)]; rfl
    rw [hn]; simp only [if_true]
    rw [List.takeWhile_cons_of_neg (by rw [numC_high (by omega)]; simp)]
    simp [hps]
  ·rw [Lib.idxFuncFrom_end _ _ _ _ _ (by rw [hsz]; exact hps)]
   have : l.drop pos = [] := List.drop_eq_nil_of_le (by omega)
   rw [this]; simp
   omega
theorem index_num (l : List UInt8) (w : World) : Calls Tryz.prog 214 #[str l, .func (.func 215) #[] #[]] w fun e w' => e = .returned (.int .i64 (if (l.takeWhile Dl.numC).length < l.length then ((l.takeWhile Dl.numC).length : Int) else -1)) ∧ Kp w w' none := by
 refine (Tryz.strings_IndexFunc_grows 215 #[] (enters_of Tryz.func215 (by kernel_rfl) rfl) notNum ⟨l.toArray⟩ w (fun W x hx _ => closure215 x hx W)).mono ?_
 rintro e w' ⟨rfl, hb⟩; refine ⟨?_, Kp.of_below hb⟩
 have := idxFrom_num l (⟨l.toArray⟩ : ByteArray).size 0 (by rw [size_str]; omega) (by omega)
 unfold Lib.idxFunc; rw [this]
 simp
/-! ### A prefix cut off -/
theorem strip_has : ∀ (p l : List UInt8), Dl.strip p l = if Lib.hasPrefix l p then some (Lib.trimPrefix l p) else none
 | [], l => by simp [Dl.strip, Lib.hasPrefix, Lib.trimPrefix]
 | c :: p, [] => by simp [Dl.strip, Lib.hasPrefix]
 | c :: p, d :: l => by
  rw [Dl.strip]; have ih := strip_has p l
  by_cases h : c = d
  ·subst h; rw [if_pos rfl, ih]
   cases hh : Lib.hasPrefix l p with
   | true =>
    have h2 : Lib.hasPrefix (c :: l) (c :: p) = true := by unfold Lib.hasPrefix at *; simpa using hh
    rw [h2, if_pos rfl, if_pos rfl]; unfold Lib.trimPrefix; rw [hh, h2]
    simp
   | false =>
    have h2 : Lib.hasPrefix (c :: l) (c :: p) = false := by unfold Lib.hasPrefix at *; simpa using hh
    rw [h2]; simp
  ·rw [if_neg h]; simp [Lib.hasPrefix, h]
theorem cut_yes (l p r : List UInt8) (w : World) (h : Dl.strip p l = some r) : Calls Tryz.prog 218 #[str l, str p] w fun e w' => e = .returned (.tuple #[str r, .bool true]) ∧ w = w' := by
 rw [strip_has] at h; refine (Tryz.strings_CutPrefix ⟨l.toArray⟩ ⟨p.toArray⟩ w).mono ?_
 rintro e w' ⟨rfl, rfl⟩; rw [data_str, data_str]
 cases hh : Lib.hasPrefix l p with
 | false => rw [hh] at h; cases h
 | true => rw [hh, if_pos rfl] at h; injection h with h; rw [h]; exact ⟨rfl, rfl⟩
theorem cut_no (l p : List UInt8) (w : World) (h : Dl.strip p l = none) : Calls Tryz.prog 218 #[str l, str p] w fun e w' => (∃ r, e = .returned (.tuple #[str r, .bool false])) ∧ w = w' := by
 rw [strip_has] at h; refine (Tryz.strings_CutPrefix ⟨l.toArray⟩ ⟨p.toArray⟩ w).mono ?_
 rintro e w' ⟨rfl, rfl⟩; rw [data_str, data_str]
 cases hh : Lib.hasPrefix l p with
 | false => exact ⟨⟨_, rfl⟩, rfl⟩
 | true => rw [hh, if_pos rfl] at h; cases h
theorem strip_len {p l r : List UInt8} (h : Dl.strip p l = some r) : r.length ≤ l.length := by
 rw [strip_has] at h
 split at h
 ·injection h with h; subst h
  unfold Lib.trimPrefix; split <;> simp
 ·cases h
end Go.Proofs.YtljjbdbgedmadaaGreatDoor
