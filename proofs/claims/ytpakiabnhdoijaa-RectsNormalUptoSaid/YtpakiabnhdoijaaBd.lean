/- The iterator of bands: what it yields, whatever the loop's body does, as long as it keeps the rows of integers. Condition: at most 8192 rectangles. -/
import Derived.Test.YtpakiabnhdoijaaCpt
namespace Go.Proofs.Ytpakiabnhdoijaa
open Go.RowKit Go.Shelf

def pairs : List Int → List Rc.Span
  | y :: z :: r => (y, z) :: pairs (z :: r)
  | _ => []
theorem pairs_take : ∀ (l : List Int) (k : Nat) (h : k + 1 < l.length), (pairs l).take (k + 1) = (pairs l).take k ++ [(l[k], l[k + 1])]
  | [], _, h => by simp at h
  | [_], _, h => by simp at h
  | y :: z :: r, 0, _ => by simp [pairs]
  | y :: z :: r, k + 1, h => by
    have ih := pairs_take (z :: r) k (by simpa using h)
    simp only [pairs, List.take_succ_cons, ih, List.cons_append, List.getElem_cons_succ]
theorem pairs_length : ∀ (l : List Int), (pairs l).length = l.length - 1
  | [] => rfl
  | [_] => rfl
  | y :: z :: r => by rw [pairs, List.length_cons, pairs_length (z :: r)]; simp
theorem pairs_all {l : List Int} {k : Nat} (h : ¬ k + 1 < l.length) : (pairs l).take k = pairs l := List.take_of_length_le (by rw [pairs_length]; omega)
theorem compact_le (zs : List Int) : (Lib.compact zs).length ≤ zs.length := by
  unfold Lib.compact Lib.compactUpTo
  rw [List.length_map]
  exact Nat.le_trans (List.length_filter_le _ _) (by simp)
/-- Rows of integers lie as they lay. -/
def Kp3 (W W' : World) : Prop := W.heap.size ≤ W'.heap.size ∧ ∀ (k : Nat) (cs : Array Value) (fr : Nat × Nat), W.heap[k]? = some (Obj.cells cs 3 fr) → W'.heap[k]? = some (Obj.cells cs 3 fr)
theorem Kp3.t {A B C : World} (h : Kp3 A B) (k : Kp3 B C) : Kp3 A C := ⟨Nat.le_trans h.1 k.1, fun i cs fr hi => k.2 i cs fr (h.2 i cs fr hi)⟩
theorem Kp3.b (W : World) (l : Nat) (o o' : Obj) (hl : W.heap[l]? = some o) (ho : o.isCells = false) : Kp3 W (W.putObj l o') :=
  ⟨(grownBy_putObj' W l o').size, fun k cs fr hk => ((grownBy_putObj' W l o').block k (lt_of_block hk) (by
    intro e; injection e with e; subst e; rw [hl] at hk; injection hk with hk; subst hk; cases ho)).trans hk⟩
/-- The sorted ends in their block. -/
def YsAt (W : World) (ao : Option Addr) (cap : Nat) (ys : List Int) : Prop := 0 < ys.length → ∃ g cur, ao = some ⟨g, 0, none⟩ ∧ ys.length ≤ cap ∧ W.heap[g]? = some (Obj.cells cur 3 (0, 0)) ∧ ∀ k, (hk : k < ys.length) → cur[k]? = some (.int .i64 ys[k])
theorem YsAt.keep {W W' : World} {ao : Option Addr} {cap : Nat} {ys : List Int} (h : YsAt W ao cap ys) (k : Kp3 W W') : YsAt W' ao cap ys := fun h0 => by
  obtain ⟨g, cur, e, hc, hg, hr⟩ := h h0
  exact ⟨g, cur, e, hc, k.2 g cur (0, 0) hg, hr⟩
theorem YsAt.cell {W : World} {g cap : Nat} {ys : List Int} (h : YsAt W (some ⟨g, 0, none⟩) cap ys) (k : Nat) (hk : k < ys.length) : W.cell? ⟨g, k, none⟩ = some (.int .i64 ys[k]) := by
  obtain ⟨g', cur, e, _, hg, hr⟩ := h (by omega)
  injection e with e
  injection e with e
  subst e
  simp only [World.cell?, hg]
  exact hr k hk
/-- The loop that gathers the ends. -/
def YeRel (W : World) (l : List Rc.Rect) (v i : Value) (wr : World) : Prop :=
  ∃ k : Nat, k ≤ l.length ∧ i = .int .i64 k ∧ wr.ownsRow W.heap.size 3 1 v ((l.take k).flatMap yends).length (((l.take k).flatMap yends).flatMap intVal) ∧ Kp W wr none
theorem yerel_step {W wq : World} {l : List Rc.Rect} {k : Nat} {u : Value} (h : k < l.length) (ho : wq.ownsRow W.heap.size 3 1 u (((l.take k).flatMap yends).length + [l[k].y0, l[k].y1].length) (((l.take k).flatMap yends).flatMap intVal ++ [l[k].y0, l[k].y1].flatMap intVal)) (hk : Kp W wq none) : YeRel W l u (.int .i64 (k + 1)) wq :=
  ⟨k + 1, h, by go_num, by rw [List.take_succ_eq_append_getElem h, List.flatMap_append, List.length_append, List.flatMap_append]; simpa [yends] using ho, hk⟩
theorem yends_len (l : List Rc.Rect) : (l.flatMap yends).length = l.length * 2 := by
  induction l with
  | nil => rfl
  | cons s l ih => rw [List.flatMap_cons, List.length_append, ih, List.length_cons]; simp [yends]; omega
theorem yends_take_len (l : List Rc.Rect) (k : Nat) (h : k ≤ l.length) : ((l.take k).flatMap yends).length = k * 2 := by rw [yends_len, List.length_take, Nat.min_eq_left h]

attribute [local go_sem] Oper.semAt_some
set_option maxHeartbeats 8000000 in
set_option maxRecDepth 100000 in
theorem bands_iter (n : Nat) (hn : 1 ≤ n) (l : List Rc.Rect) (va : Value) (w : World) (Bl : Nat) (hbl : Bl < w.heap.size) (hBl : w.cell? ⟨Bl, 0, none⟩ = some va) (hl : IsRects w va l) (hlen : l.length ≤ 8192) :
    SeqStopsK Fence.wide n Try.prog 58 #[.pointer (some ⟨Bl, 0, none⟩)] (fun s : Rc.Span => #[.agg #[.int .i64 s.1, .int .i64 s.2]]) Kp3 (fun ys => ys = pairs (Rc.ysOf l)) (fun _ => True) (pairs (Rc.ysOf l)).length w := by
  intro L J Jx W hW hJ hJx hY h0
  refine callsIn_wide.2 ?_
  change Calls Try.prog 58 #[.func (.yield L) #[] #[], .pointer (some ⟨Bl, 0, none⟩)] W _
  have hB := (hW.cell (p := ⟨Bl, 0, none⟩) hbl).trans hBl
  have hR : IsRects W va l := hl.keep (Kp.of_below hW)
  obtain ⟨ao, cap, rfl, fl⟩ := hR.form
  have FL := Lib.hid fl
  have HJ := Lib.hid hJ
  have HY := Lib.hid hY
  have H0 := Lib.hid h0
  obtain ⟨ys, hys⟩ : ∃ ys, Rc.ysOf l = ys := ⟨_, rfl⟩
  rw [hys] at HY ⊢
  have HYS := Lib.hid hys
  clear fl hR hl hBl hJ hJx hY h0 hys hW
  obtain ⟨i3, hi3, hz3, hz4, hz5⟩ := info_parts infoInt
  have hnl : (0 : Int) ≤ (l.length : Int) := Int.natCast_nonneg _
  go_enter Try.func58, Try.ntmps58
  go_wp2_with fail
  go_loopw [3, 9] (fun v i wr => YeRel W l v i wr) (fun _ i _ => l.length - (intOf i).toNat)
  case atStart => exact ⟨0, Nat.zero_le _, rfl, World.ownsRow_nil _ _ _ _, Kp.refl _ _⟩
  case round =>
    obtain ⟨k, hk, rfl, hown, hK⟩ := hrel
    have HO := Lib.hid hown
    have HK := Lib.hid hK
    clear hown hK
    have hk0 : (0 : Int) ≤ (k : Int) := Int.natCast_nonneg _
    by_cases hlt : k < l.length
    · have hk1 : (k : Int) < (l.length : Int) := by omega
      obtain ⟨bb, off, rfl, hb, hc, hr⟩ := FL.out k hlt
      obtain ⟨r, hx⟩ : ∃ r, l[k] = r := ⟨_, rfl⟩
      have cc : ∀ j, wr.cell? ⟨bb, off + k * 4 + j, none⟩ = W.cell? ⟨bb, off + k * 4 + j, none⟩ := fun j => HK.out.below.cell (p := ⟨bb, off + k * 4 + j, none⟩) hb
      have c0 : wr.cell? ⟨bb, off + k * 4, none⟩ = some (.int .i64 r.x0) := (cc 0).trans (by subst hx; exact hr 0 (by simp [recVal]))
      have c1 : wr.cell? ⟨bb, off + k * 4 + 1, none⟩ = some (.int .i64 r.y0) := (cc 1).trans (by subst hx; exact hr 1 (by simp [recVal]))
      have c2 : wr.cell? ⟨bb, off + k * 4 + 2, none⟩ = some (.int .i64 r.x1) := (cc 2).trans (by subst hx; exact hr 2 (by simp [recVal]))
      have c3 : wr.cell? ⟨bb, off + k * 4 + 3, none⟩ = some (.int .i64 r.y1) := (cc 3).trans (by subst hx; exact hr 3 (by simp [recVal]))
      have HST : Hid (∀ u wq, wq.ownsRow W.heap.size 3 1 u (((l.take k).flatMap yends).length + [r.y0, r.y1].length) (((l.take k).flatMap yends).flatMap intVal ++ [r.y0, r.y1].flatMap intVal) → Kp W wq none → YeRel W l u (.int .i64 (k + 1)) wq) := Lib.hid fun u wq h1 h2 => yerel_step hlt (by rw [hx]; exact h1) h2
      have hel : ((l.take k).flatMap yends).length ≤ 16384 := by rw [yends_take_len l k hk]; omega
      clear hx hr cc
      obtain ⟨x0, y0, x1, y1⟩ := r
      simp only [] at c0 c1 c2 c3 HST
      generalize (l.take k).flatMap yends = es at *
      have KC : Hid (Kp wr ((wr.alloc (Obj.cells #[.int .i64 x0, .int .i64 y0, .int .i64 x1, .int .i64 y1] 44)).alloc (Obj.cells #[.int .i64 y0, .int .i64 y1] 3)) none) := Lib.hid (((Kp.refl wr none).alloc _).alloc _)
      go_wp2_with (at_builtin; go_must (refine wpList_app (f := intVal) (by rfl) _ _ W.heap.size 57 3 (by rfl) i3 _ 1 8 Try.underlying57 hi3 hz3 hz4 hz5 rfl (by omega) (fun _ => rfl) int_one u3 es.length (es.flatMap intVal) (by rfl) (HO.out.kept KC.out (by cases u3.ownBlock <;> simp)) (.slice (some ⟨wr.heap.size + 1, 0, none⟩) 2 2) [y0, y1] (by rfl) (ints_two (wr.alloc (Obj.cells #[.int .i64 x0, .int .i64 y0, .int .i64 x1, .int .i64 y1] 44)) y0 y1 _ (by simp)) (by unfold maxLen; simp; omega) (by simp; omega) (HK.out.trans KC.out).size ?_))
      intro v4 w4 ho4 hg4 _
      have HREL := Lib.hid (HST.out v4 w4 (by simpa using ho4) (Kp.row (HK.out.trans KC.out) hg4 (fun j hj => (HO.out.lt j hj).1)))
      clear ho4 hg4
      go_wp2_with fail
      go_roundw
      case rel => exact HREL.out
      case measure => simp [intOf]; omega
    · have hkx : k = l.length := by omega
      have hk1 : ¬ (k : Int) < (l.length : Int) := by omega
      obtain ⟨e0, he0⟩ : ∃ e, l.flatMap yends = e := ⟨_, rfl⟩
      have HOE : Hid (wr.ownsRow W.heap.size 3 1 u3 e0.length (e0.flatMap intVal)) := Lib.hid (by have := HO.out; rw [hkx, List.take_length, he0] at this; exact this)
      have hel : e0.length ≤ 16384 := by rw [← he0, yends_len]; omega
      obtain ⟨es, hes⟩ : ∃ e, (e0.mergeSort fun x y => decide (x ≤ y)) = e := ⟨_, rfl⟩
      have hesl : es.length ≤ 16384 := by rw [← hes, List.length_mergeSort]; exact hel
      have HCY : Hid (Lib.compact es = ys) := Lib.hid (by rw [← hes, ← he0, compact_ys]; exact HYS.out)
      have HES := Lib.hid hes
      have hcl := compact_le es
      clear hkx he0 HO hes
      go_wp2_with fail
      refine (sortInts_own HOE.out (by omega)).mono ?_
      rintro E w3 ⟨rfl, ho3, k3⟩
      rw [HES.out] at ho3
      have HO3 := Lib.hid ho3
      have K3 := Lib.hid (Kp.row HK.out k3 (fun j hj => (HOE.out.lt j hj).1))
      clear ho3 k3
      go_wp2_with fail
      refine (compactInts_own HO3.out (by omega) hcl).mono ?_
      rintro E W5 ⟨aoe, cape, rfl, k5, hce⟩
      rw [HCY.out] at hce
      have HCE := Lib.hid hce
      have K5 := Lib.hid (Kp.row K3.out k5 (fun j hj => (HO3.out.lt j hj).1))
      have hyl : ys.length ≤ 16384 := by rw [← HCY.out]; omega
      rw [HCY.out]
      clear hce k5 hcl HOE HO3
      have hny : (0 : Int) ≤ (ys.length : Int) := Int.natCast_nonneg _
      have HJ5 : Hid (J [] W5) := Lib.hid (HJ.out [] W W5 none H0.out K5.out (fun r e => by cases e))
      have HYA : Hid (YsAt W5 aoe cape ys) := Lib.hid fun h => by
        obtain ⟨g, cur, e, _, hc, hg, hr⟩ := HCE.out h
        exact ⟨g, cur, e, hc, hg, hr⟩
      clear HCE
      go_wp2_with fail
      refine (wpIn_wide (n := n)).1 ?_
      gi_loopw [6] (fun i wr => ∃ k : Nat, k ≤ ys.length ∧ i = .int .i64 k ∧ J ((pairs ys).take k) wr ∧ YsAt wr aoe cape ys) (fun i _ => ys.length - (intOf i).toNat)
      case atStart => exact ⟨0, Nat.zero_le _, rfl, HJ5.out, HYA.out⟩
      case round =>
        obtain ⟨k, hk, rfl, hJk, hya⟩ := hrel
        have HA := Lib.hid hya
        have HJK := Lib.hid hJk
        clear hya hJk
        have hk0 : (0 : Int) ≤ (k : Int) := Int.natCast_nonneg _
        have hk9 : (0 : Int) ≤ (k : Int) + 1 := by omega
        by_cases hlt : k + 1 < ys.length
        · have hk1 : (k : Int) + 1 < (ys.length : Int) := by omega
          have hk2 : (k : Int) < (ys.length : Int) := by omega
          have hwk : IntKind.i64.wrap ((k : Int) + 1) = (k : Int) + 1 := wrap_nat (n := k + 1) (by omega)
          obtain ⟨g, cur, rfl, _, _, _⟩ := HA.out (by omega)
          have c0 := HA.out.cell k (by omega)
          have c1 := HA.out.cell (k + 1) hlt
          have HPT := Lib.hid (pairs_take ys k hlt)
          obtain ⟨y, hy⟩ : ∃ y, ys[k] = y := ⟨_, rfl⟩
          obtain ⟨z, hz⟩ : ∃ z, ys[k + 1] = z := ⟨_, rfl⟩
          rw [hy] at c0 HPT
          rw [hz] at c1 HPT
          clear hy hz
          have hJd : J ((pairs ys).take k) wr.drew := HJ.out _ wr _ none HJK.out (Kp.refl wr none).drew (fun r e => by cases e)
          obtain ⟨fn, tmps, assign, body, hyd, hR⟩ := HY.out ((pairs ys).take k) (y, z) wr.drew hJd (by rw [List.length_take, pairs_length]; omega)
          dsimp only at hyd
          have HRR : Hid (RoundIn Fence.wide (n - 1) Try.prog L fn tmps assign body wr.drew fun e W' => ∃ b : Bool, e = .returned (.bool b) ∧ ((b = true ∧ J ((pairs ys).take (k + 1)) W' ∧ Kp3 wr.drew W') ∨ (b = false ∧ Jx ((pairs ys).take k ++ [(y, z)]) W'))) := Lib.hid (hR.mono (by
            rintro e W3 (⟨rfl, hJ3, hk3⟩ | ⟨rfl, hJx3⟩)
            · exact ⟨true, rfl, .inl ⟨rfl, by rw [HPT.out]; exact hJ3, hk3⟩⟩
            · exact ⟨false, rfl, .inr ⟨rfl, hJx3⟩⟩))
          clear hR hJd
          have hm : Try.prog.follows .mixedOrders = true := by kernel_rfl
          gi_wp2
          gi_region_with_o (refine HRR.out.mono ?_; rintro e W3 ⟨b, rfl, hb⟩)
          all_goals
            rcases hb with ⟨rfl, hJ3, hk3⟩ | ⟨rfl, hJx3⟩
            · have HREL : Hid (J ((pairs ys).take (k + 1)) _ ∧ YsAt _ _ cape ys) := Lib.hid ⟨hJ3, (HA.out.keep hk3)⟩
              clear hJ3 hk3
              gi_wp2
              go_roundw
              case rel => exact ⟨k + 1, by omega, by go_num, HREL.out.1, HREL.out.2⟩
              case measure => simp [intOf]; omega
            · gi_wp2
              refine bodyPost_ret (results_none rfl _ _ _) rfl ?_
              exact ⟨⟨_, rfl⟩, .inr ⟨_, trivial, hJx3⟩⟩
        · have hk1 : ¬ (k : Int) + 1 < (ys.length : Int) := by omega
          have hJa : Hid (J (pairs ys) wr) := Lib.hid (by have := HJK.out; rw [pairs_all hlt] at this; exact this)
          gi_wp2
          go_end0
          exact ⟨⟨_, rfl⟩, .inl hJa.out⟩

end Go.Proofs.Ytpakiabnhdoijaa
