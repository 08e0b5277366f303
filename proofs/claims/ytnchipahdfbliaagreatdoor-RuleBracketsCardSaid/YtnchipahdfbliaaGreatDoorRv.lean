/- The program's conditions: which are right, and their sizes, whole. Conditions: strings of at most 10^9 bytes, lists of at most 10^12 conditions. -/
import Derived.Test.YtnchipahdfbliaaGreatDoorRtw
namespace Go.Proofs.YtnchipahdfbliaaGreatDoor
open Go.RowKit

/-- Strings and lists that a machine holds. -/
inductive Short : Ru.Cond → Prop
  | mk (op : Int) (t : List UInt8) (n : Int) (b : Ru.Box) (l : List Ru.Cond) : t.length ≤ 1000000000 → l.length ≤ 1000000000000 → (∀ c ∈ l, Short c) → Short (.mk op t n b l)
theorem Short.text {c : Ru.Cond} (h : Short c) : c.text.length ≤ 1000000000 := by cases h; assumption
theorem Short.len {c : Ru.Cond} (h : Short c) : c.l.length ≤ 1000000000000 := by cases h; assumption
theorem Short.sub {c d : Ru.Cond} (h : Short c) (hd : d ∈ c.l) : Short d := by cases h with | mk op t n b l h1 h2 h3 => exact h3 d hd

theorem cond_cells {w : World} {ao : Option Addr} {cap : Nat} {ps : List (Ru.Cond × Value)} (h : LiesAt 8 cC w ao cap ps) (k : Nat) (hk : k < ps.length) {p : Ru.Cond × Value} (hp : ps[k] = p) : ∃ b off, ao = some ⟨b, off, none⟩ ∧
    w.cell? ⟨b, off + k * 8, none⟩ = some (.int .i64 p.1.op) ∧ w.cell? ⟨b, off + k * 8 + 1, none⟩ = some (str p.1.text) ∧ w.cell? ⟨b, off + k * 8 + 2, none⟩ = some (.int .i64 p.1.n) ∧
    w.cell? ⟨b, off + k * 8 + 3, none⟩ = some (.int .i64 p.1.box.x0) ∧ w.cell? ⟨b, off + k * 8 + 4, none⟩ = some (.int .i64 p.1.box.y0) ∧ w.cell? ⟨b, off + k * 8 + 5, none⟩ = some (.int .i64 p.1.box.x1) ∧ w.cell? ⟨b, off + k * 8 + 6, none⟩ = some (.int .i64 p.1.box.y1) ∧
    w.cell? ⟨b, off + k * 8 + 7, none⟩ = some p.2 := by
  obtain ⟨b, off, e, _, _, hr⟩ := h k hk
  subst hp
  exact ⟨b, off, e, hr 0 (by simp [cC]), hr 1 (by simp [cC]), hr 2 (by simp [cC]), hr 3 (by simp [cC]), hr 4 (by simp [cC]), hr 5 (by simp [cC]), hr 6 (by simp [cC]), hr 7 (by simp [cC])⟩

/-- What right returns. -/
def RightIs (c : Ru.Cond) : Prop := ∀ (w : World) (v : Value), Env w → Tree w c v → Calls Tryz.prog 37 #[cA c v] w fun e w' => e = .returned (.bool (Ru.right c)) ∧ Kp w w' none
set_option maxHeartbeats 2000000 in
set_option maxRecDepth 100000 in
theorem right1_cond {c : Ru.Cond} (h : RightIs c) (w : World) (v : Value) (he : Env w) (ht : Tree w c v) : Calls Tryz.prog 62 #[cA c v] w fun e w' => e = .returned (.bool (!Ru.right c)) ∧ Kp w w' none := by
  have hk : Kp w (w.alloc (.cells (cC (c, v)).toArray 40)) none := (Kp.refl _ _).alloc _
  have c1 := h _ v (he.kp0 hk) (ht.keep hk)
  obtain ⟨r, hr⟩ : ∃ r, Ru.right c = r := ⟨_, rfl⟩
  rw [hr] at c1 ⊢
  have HK := Lib.hid hk
  clear hr h he ht hk
  obtain ⟨op, t, n, ⟨x0, y0, x1, y1⟩, l⟩ := c
  unfold cA cC at *
  simp only [Ru.Cond.op, Ru.Cond.text, Ru.Cond.n, Ru.Cond.box] at *
  go_enter Tryz.func62, Tryz.ntmps62
  go_wp2_with (go_at_call 37; refine c1.mono ?_; rintro e w1 ⟨rfl, hk1⟩)
  go_ret
  exact ⟨rfl, HK.out.trans hk1⟩
set_option maxHeartbeats 4000000 in
set_option maxRecDepth 100000 in
theorem indexFunc_any (ps : List (Ru.Cond × Value)) (ao : Option Addr) (cap : Nat) (w : World) (he : Env w) (hl : LiesAt 8 cC w ao cap ps) (ht : ∀ p ∈ ps, Tree w p.1 p.2) (hr : ∀ p ∈ ps, RightIs p.1) (hm : ps.length ≤ 1000000000000) :
    Calls Tryz.prog 88 #[.slice ao ps.length cap, .func (.func 62) #[] #[]] w fun e w' => (∃ n : Int, e = .returned (.int .i64 n) ∧ decide (0 ≤ n) = !(ps.all fun p => Ru.right p.1)) ∧ Kp w w' none := by
  have HL := Lib.hid hl
  have HT := Lib.hid ht
  have HR := Lib.hid hr
  have HE := Lib.hid he
  clear hl ht hr he
  go_enter Tryz.func88, Tryz.ntmps88
  go_wp2_with fail
  go_loopw [8] (fun i wr => ∃ k : Nat, k ≤ ps.length ∧ i = .int .i64 k ∧ Hid (∀ p ∈ ps.take k, Ru.right p.1 = true) ∧ Kp w wr none) (fun i _ => ps.length - (intOf i).toNat)
  case atStart => exact ⟨0, Nat.zero_le _, rfl, Lib.hid (fun _ h => (by cases h)), Kp.refl _ _⟩
  case round =>
    obtain ⟨k, hk, rfl, HC, hkp⟩ := hrel
    have HK := Lib.hid hkp
    clear hkp
    have hk0 : (0 : Int) ≤ (k : Int) := Int.natCast_nonneg _
    by_cases hlt : k < ps.length
    · obtain ⟨p, hp⟩ : ∃ p, ps[k] = p := ⟨_, rfl⟩
      have hmem : p ∈ ps := by rw [← hp]; exact List.getElem_mem hlt
      obtain ⟨b, off, hao, c0, c1, c2, c3, c4, c5, c6, c7⟩ := cond_cells (HL.out.keep HK.out) k hlt hp
      have A := right1_cond (HR.out p hmem) wr p.2 (HE.out.kp0 HK.out) ((HT.out p hmem).keep HK.out)
      have HN : Hid (Ru.right p.1 = true → ∀ q ∈ ps.take (k + 1), Ru.right q.1 = true) := Lib.hid (fun h q hq => by
        rw [List.take_succ_eq_append_getElem hlt, List.mem_append] at hq
        rcases hq with hq | hq
        · exact HC.out q hq
        · rw [List.mem_singleton] at hq; rw [hq, hp]; exact h)
      have HY : Hid (Ru.right p.1 = false → decide ((0 : Int) ≤ (k : Int)) = !(ps.all fun p => Ru.right p.1)) := Lib.hid (fun h => by
        rw [decide_eq_true hk0]
        have : (ps.all fun p => Ru.right p.1) = false := List.all_eq_false.2 ⟨p, hmem, by simp [h]⟩
        rw [this]; rfl)
      have hk1 : (k : Int) < (ps.length : Int) := by omega
      subst hao
      clear hp hmem
      obtain ⟨rv, hrv⟩ : ∃ rv, Ru.right p.1 = rv := ⟨_, rfl⟩
      rw [hrv] at A HN HY
      clear hrv
      obtain ⟨⟨op, t, n, ⟨x0, y0, x1, y1⟩, l⟩, v⟩ := p
      unfold cA at A
      simp only [Ru.Cond.op, Ru.Cond.text, Ru.Cond.n, Ru.Cond.box] at *
      cases rv
      · have HY1 := Lib.hid (HY.out rfl)
        clear HN HY
        go_wp2_with fail
        refine A.mono ?_
        rintro e w1 ⟨rfl, k1⟩
        go_wp2_with fail
        go_ret
        exact ⟨⟨k, rfl, HY1.out⟩, HK.out.trans k1⟩
      · have HN1 := Lib.hid (HN.out rfl)
        clear HN HY
        go_wp2_with fail
        refine A.mono ?_
        rintro e w1 ⟨rfl, k1⟩
        have K1 := Lib.hid (HK.out.trans k1)
        clear k1
        go_wp2_with fail
        go_roundw
        case rel => exact ⟨k + 1, hlt, by go_num, HN1, K1.out⟩
        case measure => simp [intOf]; omega
    · have HA : Hid ((ps.all fun p => Ru.right p.1) = true) := Lib.hid (List.all_eq_true.2 fun q hq => HC.out q (by rw [List.take_of_length_le (by omega)]; exact hq))
      have hkn1 : ¬ (k : Int) < (ps.length : Int) := by omega
      go_wp2_with fail
      go_ret
      exact ⟨⟨-1, rfl, by rw [HA.out]; rfl⟩, HK.out⟩
set_option maxHeartbeats 2000000 in
set_option maxRecDepth 100000 in
theorem containsFunc_any (ps : List (Ru.Cond × Value)) (ao : Option Addr) (cap : Nat) (w : World) (he : Env w) (hl : LiesAt 8 cC w ao cap ps) (ht : ∀ p ∈ ps, Tree w p.1 p.2) (hr : ∀ p ∈ ps, RightIs p.1) (hm : ps.length ≤ 1000000000000) :
    Calls Tryz.prog 61 #[.slice ao ps.length cap, .func (.func 62) #[] #[]] w fun e w' => e = .returned (.bool (!(ps.all fun p => Ru.right p.1))) ∧ Kp w w' none := by
  have A := indexFunc_any ps ao cap w he hl ht hr hm
  obtain ⟨r, hr2⟩ : ∃ r, (!(ps.all fun p => Ru.right p.1)) = r := ⟨_, rfl⟩
  rw [hr2] at A ⊢
  clear he hl ht hr hr2
  go_enter Tryz.func61, Tryz.ntmps61
  go_wp2_with (go_at_call 88; refine A.mono ?_; rintro e w1 ⟨⟨n, rfl, hn⟩, hk⟩; have HN := Lib.hid hn; clear hn)
  go_ret
  exact ⟨ret_b HN.out, hk⟩
theorem rightIs (c : Ru.Cond) : Short c → RightIs c := by
  refine Ru.Cond.ind (P := fun c => Short c → RightIs c) (fun op t n b l ih hs w v he ht => ?_) c
  obtain ⟨ps, hps, hl, hts⟩ := ht.open
  have hps : l = ps.map (·.1) := hps
  have hlen : ps.length = l.length := by rw [hps]; simp
  have h1 : l.length ≤ 1000000000000 := hs.len
  have h2 : t.length ≤ 1000000000 := hs.text
  obtain ⟨ao, cap, rfl, hx⟩ := hl.form
  have hg : Ru.rights l = ps.all fun p => Ru.right p.1 := by rw [Ru.rights_all, hps, List.all_map]; rfl
  have hc : ∀ u, Kp w u none → Calls Tryz.prog 61 #[.slice ao ps.length cap, .func (.func 62) #[] #[]] u fun e w' => e = .returned (.bool (!Ru.rights l)) ∧ Kp u w' none := fun u hu => by
    rw [hg]
    exact containsFunc_any ps ao cap u (he.kp0 hu) (hx.keep hu) (fun p hp => (hts p hp).keep hu) (fun p hp => ih p.1 (by rw [hps]; exact List.mem_map_of_mem hp) (hs.sub (by show p.1 ∈ l; rw [hps]; exact List.mem_map_of_mem hp))) (by omega)
  obtain ⟨x0, y0, x1, y1⟩ := b
  show Calls Tryz.prog 37 #[.agg #[.int .i64 op, str t, .int .i64 n, .int .i64 x0, .int .i64 y0, .int .i64 x1, .int .i64 y1, .slice ao ps.length cap]] w _
  by_cases o : op < 1 ∨ 10 < op
  · exact right_op0 op o t n x0 y0 x1 y1 l w he h2 ao cap ps.length hlen.symm (by omega) hc
  · have : op = 1 ∨ op = 2 ∨ op = 3 ∨ op = 4 ∨ op = 5 ∨ op = 6 ∨ op = 7 ∨ op = 8 ∨ op = 9 ∨ op = 10 := by omega
    rcases this with rfl | rfl | rfl | rfl | rfl | rfl | rfl | rfl | rfl | rfl
    · exact right_op1 t n x0 y0 x1 y1 l w he h2 ao cap ps.length hlen.symm (by omega) hc
    · exact right_op2 t n x0 y0 x1 y1 l w he h2 ao cap ps.length hlen.symm (by omega) hc
    · exact right_op3 t n x0 y0 x1 y1 l w he h2 ao cap ps.length hlen.symm (by omega) hc
    · exact right_op4 t n x0 y0 x1 y1 l w he h2 ao cap ps.length hlen.symm (by omega) hc
    · exact right_op5 t n x0 y0 x1 y1 l w he h2 ao cap ps.length hlen.symm (by omega) hc
    · exact right_op6 t n x0 y0 x1 y1 l w he h2 ao cap ps.length hlen.symm (by omega) hc
    · exact right_op7 t n x0 y0 x1 y1 l w he h2 ao cap ps.length hlen.symm (by omega) hc
    · exact right_op8 t n x0 y0 x1 y1 l w he h2 ao cap ps.length hlen.symm (by omega) hc
    · exact right_op9 t n x0 y0 x1 y1 l w he h2 ao cap ps.length hlen.symm (by omega) hc
    · exact right_op10 t n x0 y0 x1 y1 l w he h2 ao cap ps.length hlen.symm (by omega) hc
end Go.Proofs.YtnchipahdfbliaaGreatDoor
