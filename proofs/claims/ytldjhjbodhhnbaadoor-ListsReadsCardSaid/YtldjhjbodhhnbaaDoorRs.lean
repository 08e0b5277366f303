/- The rows that the laws take out of their arguments. No condition but what rows can be. -/
import Derived.Test.YtldjhjbodhhnbaaDoorLs
import Derived.RegionTactic
import Derived.BigRegion
namespace Go.Proofs.YtldjhjbodhhnbaaDoor
open Go.RowKit

theorem info33 : (Tryd.prog.info? 33).map (fun i => (i.zero, i.size, i.bytes)) = some (some (.agg #[.string ⟨#[]⟩, .string ⟨#[]⟩, .int .i64 0, .int .i64 0, .int .i64 0, .bool false]), 6, 64) := by kernel_rfl
def cutF : Li.Fld → Li.Fld | .s t => .s (t.take 40) | f => f
def cutX (x : List Li.Fld) : List Li.Fld := x.map cutF
def cellsX (xs : List (List Li.Fld)) : List Value := xs.flatMap fun x => (cutX x).map fldVal
theorem cellsX_step (xs : List (List Li.Fld)) (k : Nat) (h : k < xs.length) : cellsX (xs.take (k + 1)) = cellsX (xs.take k) ++ (cutX xs[k]).map fldVal := by
  unfold cellsX; rw [List.take_succ_eq_append_getElem h, List.flatMap_append]; simp
theorem heap_new1 (w : World) (o p : Obj) : (((w.alloc o).drew).alloc p).heap[w.heap.size + 1]? = some p := by
  have h := heap_alloc_new (w.alloc o).drew p
  rw [show (w.alloc o).drew.heap.size = w.heap.size + 1 by simp] at h
  exact h
def RowsRel (w : World) (e : TypeId) (xs : List (List Li.Fld)) (v i : Value) (wr : World) : Prop :=
  ∃ k : Nat, k ≤ xs.length ∧ i = .int .i64 k ∧ wr.ownsRow w.heap.size e 6 v k (cellsX (xs.take k)) ∧ Kp w wr none
theorem ext_40 (x : List UInt8) : (⟨x.toArray⟩ : ByteArray).extract 0 (min (x.length : Int) 40).toNat = ⟨(x.take 40).toArray⟩ := by
  rw [ext_take]; congr 2
  by_cases h : x.length ≤ 40
  · rw [List.take_of_length_le (by omega), List.take_of_length_le h]
  · congr 1; omega
set_option maxHeartbeats 4000000 in
set_option maxRecDepth 100000 in
theorem rows_row (b off cap n : Nat) (xs : List (List Li.Fld)) (w : World) (hb : b < w.heap.size) (_hc : n ≤ cap) (hn : n ≤ 9223372036854775807) (hxn : xs.length = min n 8)
    (hr : ∀ k, (h : k < xs.length) → ∀ j, (h2 : j < xs[k].length) → w.cell? ⟨b, off + k * 6 + j, none⟩ = some (fldVal xs[k][j])) (hg : ∀ x ∈ xs, Li.Good Li.rowK x ∧ ∀ t, Li.Fld.s t ∈ x → t.length ≤ 9223372036854775807) :
    Calls Tryd.prog 10 #[.slice (some ⟨b, off, none⟩) n cap] w fun E w' => ∃ v, E = .returned v ∧ w'.ownsRow w.heap.size 33 6 v xs.length (cellsX xs) ∧ Kp w w' none := by
  have HR := Lib.hid hr
  have HG := Lib.hid hg
  have HXN := Lib.hid hxn
  have hx8 : xs.length ≤ 8 := by omega
  have hxn1 : xs.length ≤ n := by omega
  clear hr hg hxn
  go_enter Tryd.func10, Tryd.ntmps10
  go_wp2_with fail
  go_loopw [3, 4] (fun v i wr => RowsRel w 33 xs v i wr) (fun _ i _ => 8 - (intOf i).toNat)
  case atStart => exact ⟨0, Nat.zero_le _, rfl, World.ownsRow_nil _ _ _ _, Kp.refl _ _⟩
  case round =>
    obtain ⟨k, hk, rfl, hown, hK⟩ := hrel
    have HO := Lib.hid hown
    have HK := Lib.hid hK
    have hbz := HK.out.size
    clear hown hK
    have hk0 : (0 : Int) ≤ (k : Int) := Int.natCast_nonneg _
    by_cases hlt : k < xs.length
    · obtain ⟨x, hx⟩ : ∃ x, xs[k] = x := ⟨_, rfl⟩
      have HA : Hid (∀ j, (h2 : j < x.length) → w.cell? ⟨b, off + k * 6 + j, none⟩ = some (fldVal x[j])) := Lib.hid (by subst hx; exact HR.out k hlt)
      have HGX : Hid (Li.Good Li.rowK x ∧ ∀ t, Li.Fld.s t ∈ x → t.length ≤ 9223372036854775807) := Lib.hid (by subst hx; exact HG.out _ (List.getElem_mem hlt))
      have HX := Lib.hid hx
      clear hx
      obtain ⟨ra, rb, rx, ry, rt, ru, rfl, _, _, _⟩ := Li.good_row HGX.out.1
      have cc : ∀ j, wr.cell? ⟨b, off + k * 6 + j, none⟩ = w.cell? ⟨b, off + k * 6 + j, none⟩ := fun j => HK.out.below.cell (p := ⟨b, off + k * 6 + j, none⟩) hb
      have c0 : wr.cell? ⟨b, off + k * 6, none⟩ = some (.string ⟨ra.toArray⟩) := (cc 0).trans (HA.out 0 (by simp))
      have c1 : wr.cell? ⟨b, off + k * 6 + 1, none⟩ = some (.string ⟨rb.toArray⟩) := (cc 1).trans (HA.out 1 (by simp))
      have c2 : wr.cell? ⟨b, off + k * 6 + 2, none⟩ = some (.int .i64 rx) := (cc 2).trans (HA.out 2 (by simp))
      have c3 : wr.cell? ⟨b, off + k * 6 + 3, none⟩ = some (.int .i64 ry) := (cc 3).trans (HA.out 3 (by simp))
      have c4 : wr.cell? ⟨b, off + k * 6 + 4, none⟩ = some (.int .i64 rt) := (cc 4).trans (HA.out 4 (by simp))
      have c5 : wr.cell? ⟨b, off + k * 6 + 5, none⟩ = some (.bool ru) := (cc 5).trans (HA.out 5 (by simp))
      have hla : ra.length ≤ 9223372036854775807 := HGX.out.2 ra (by simp)
      have hlb : rb.length ≤ 9223372036854775807 := HGX.out.2 rb (by simp)
      clear cc HGX
      have hk1 : (k : Int) < (n : Int) := by omega
      have hk8 : (k : Int) < 8 := by omega
      have hm0 : (0 : Int) ≤ min (ra.length : Int) 40 := by omega
      have hm1 : min (ra.length : Int) 40 ≤ (ra.length : Int) := by omega
      have hm2 : (0 : Int) ≤ min (rb.length : Int) 40 := by omega
      have hm3 : min (rb.length : Int) 40 ≤ (rb.length : Int) := by omega
      have hea := ext_40 ra
      have heb := ext_40 rb
      have hcm : k + 1 ≤ maxLen := by unfold maxLen; omega
      have hcb : (k + 1) * 64 ≤ 140737488355328 := by omega
      obtain ⟨i0, hi, hz0, hz1, hz2⟩ := info_parts info33
      go_wp2_with fail
      go_region
      all_goals
        clear c0 c1 c2 c3 c4 c5 hea heb hm0 hm1 hm2 hm3
        go_wp2_with (at_builtin; go_must (refine wpList_append_lies _ (by rfl) _ _ _ (by rfl) w.heap.size 33 i0 _ 6 64 Tryd.underlying22 hi hz0 hz1 hz2 rfl (by omega) u3 k (cellsX (xs.take k)) (by rfl) (HO.out.kept (((Kp.refl wr none).alloc (.cells #[.string ⟨(ra.take 40).toArray⟩, .string ⟨(rb.take 40).toArray⟩, .int .i64 rx, .int .i64 ry, .int .i64 rt, .bool ru] 33)).drew.alloc (.cells #[.string ⟨(ra.take 40).toArray⟩, .string ⟨(rb.take 40).toArray⟩, .int .i64 rx, .int .i64 ry, .int .i64 rt, .bool ru] 33)) (by cases u3.ownBlock <;> simp)) ⟨wr.heap.size + 1, 0, none⟩ 1 1 [.string ⟨(ra.take 40).toArray⟩, .string ⟨(rb.take 40).toArray⟩, .int .i64 rx, .int .i64 ry, .int .i64 rt, .bool ru] (by rfl) (by rfl) (World.news_of_block (cs := #[.string ⟨(ra.take 40).toArray⟩, .string ⟨(rb.take 40).toArray⟩, .int .i64 rx, .int .i64 ry, .int .i64 rt, .bool ru]) (t := 33) (fr := (0, 0)) (heap_new1 wr _ _)) (by simp [Value.oneCell']) (by omega) hcm hcb (by simp; omega) (wr.heap.size + 2) (by simp) ?_))
        intro gg capg w4 hown4 hgrow4 _ _
        have HREL : Hid (RowsRel w 33 xs (.slice (some ⟨gg, 0, none⟩) (k + 1) capg) (.int .i64 (k + 1)) w4) := Lib.hid ⟨k + 1, hlt, by go_num, by rw [cellsX_step xs k hlt, HX.out]; exact hown4, Kp.row ((HK.out.alloc _).drew.alloc _) hgrow4 (fun j hj => (HO.out.lt j hj).1)⟩
        clear hown4 hgrow4
        go_wp2_with fail
        first | exact ⟨HREL.out, by simp [intOf]; omega⟩ | (go_roundw; all_goals first | exact HREL.out | (simp [intOf]; omega) | ((repeat apply Exists.intro); exact ⟨HREL.out, rfl⟩))
    · have hkx : k = xs.length := by omega
      have HE : Hid (∃ v, Ending.returned u3 = .returned v ∧ wr.ownsRow w.heap.size 33 6 v xs.length (cellsX xs) ∧ Kp w wr none) := Lib.hid ⟨u3, rfl, by have := HO.out; rw [hkx, List.take_length] at this; exact this, HK.out⟩
      by_cases hkn : k < n
      · have hk8 : ¬ (k : Int) < 8 := by have := HXN.out; omega
        have hkn1 : (k : Int) < (n : Int) := by omega
        clear hkx
        go_wp2_with fail
        go_ret
        exact HE.out
      · have hkn1 : ¬ (k : Int) < (n : Int) := by omega
        clear hkx
        go_wp2_with fail
        go_ret
        exact HE.out

end Go.Proofs.YtldjhjbodhhnbaaDoor
