/- A line, read field by field. Conditions: the line is shorter than 2^20 bytes; the fields' pointers point to the cells of one block. -/
import Derived.Test.YtldjhjbodhhnbaaDoorL0
import Derived.Test.YtldjhjbodhhnbaaDoorLa
import Derived.Test.YtldjhjbodhhnbaaDoorWf
namespace Go.Proofs.YtldjhjbodhhnbaaDoor
open Go.RowKit

def LCells (cs : List Value) (fs : List Li.Fld) : List Value := fs.map fldVal ++ cs.drop fs.length
theorem lcells_set (cs : List Value) (fs : List Li.Fld) (f : Li.Fld) (h : fs.length < cs.length) : (LCells cs fs).toArray.setIfInBounds fs.length (fldVal f) = (LCells cs (fs ++ [f])).toArray := by
  unfold LCells
  rw [List.setIfInBounds_toArray, List.set_append_right _ _ (by simp)]
  rw [List.drop_eq_getElem_cons h]
  simp only [List.length_map, Nat.sub_self, List.set_cons_zero, List.map_append, List.map_cons, List.map_nil, List.length_append, List.length_cons, List.length_nil, List.append_assoc, List.cons_append, List.nil_append, Nat.zero_add]
theorem lcells_some (cs : List Value) (fs : List Li.Fld) (h : fs.length < cs.length) : ∃ v, (LCells cs fs).toArray[fs.length]? = some v := by
  refine ⟨cs[fs.length], ?_⟩
  unfold LCells
  rw [List.getElem?_toArray, List.getElem?_append_right (by simp)]
  simp [h]
theorem lcells_all (cs : List Value) (fs : List Li.Fld) (h : cs.length ≤ fs.length) : LCells cs fs = fs.map fldVal := by
  unfold LCells; rw [List.drop_eq_nil_of_le h, List.append_nil]
def LineEnds (w : World) (X : Nat) (T : TypeId) (o : Option (List Li.Fld)) (E : Ending) (w' : World) : Prop :=
  (match o with
  | some fs => E = .returned (.bool true) ∧ w'.heap[X]? = some (.cells (fs.map fldVal).toArray T (0, 0))
  | none => E = .returned (.bool false)) ∧ Kp w w' (some X)
/-- Where the fields' pointers point. -/
def FldPtrs (X : Nat) (ks : List Li.Kd) (cells : Array Value) : Prop := ∀ j, (h : j < ks.length) → cells[j]? = some (.iface (tyOf ks[j]) (.pointer (some ⟨X, j, none⟩)))
def LnRel (w : World) (X : Nat) (T : TypeId) (cs : List Value) (kind : List UInt8) (ks : List Li.Kd) (s0 : List UInt8) (v i : Value) (wr : World) : Prop :=
  ∃ (fs : List Li.Fld) (r : List UInt8), Li.On kind ks s0 fs r ∧ v = .string ⟨r.toArray⟩ ∧ i = .int .i64 fs.length ∧ Kp w wr (some X) ∧ wr.heap[X]? = some (.cells (LCells cs fs).toArray T (0, 0)) ∧ wr.heap[w.heap.size]? = some (.cells #[.bool false] 4 (0, 0))
theorem leaves_tmps {fn : Func} {t t' : Array Value} {R : Ending → World → Prop} (h : results fn t = results fn t') : ∀ (ds : List Deferred) (u : FrameMode) (w : World), Leaves Tryd.prog fn t R ds u w → Leaves Tryd.prog fn t' R ds u w
  | [], .returning, w, ⟨v, hr, hR⟩ => ⟨v, by rw [← h]; exact hr, hR⟩
  | [], .panicking chain, w, hR => hR
  | [], .run, w, hR => hR
  | d :: ds, u, w, ⟨h1, fv, cap, f, args, h2, h3, h4⟩ => ⟨h1, fv, cap, f, args, h2, h3, h4.mono fun e u' w' hh => by
      cases e with
      | returned v => exact leaves_tmps h ds _ _ hh
      | panicked chain => exact leaves_tmps h ds _ _ hh
      | outgrown => exact hh⟩
/-- A panic's way out reads no slot but the result's. -/
theorem put42 {R : Ending → World → Prop} (a : Act) (d : Option Nat) (v : Value) (c : List PanicEntry) (w : World) (hd : d ≠ some 6) (h : bodyPostD Tryd.prog Tryd.f42 R (.panic c) (a.put d v) w) : bodyPostD Tryd.prog Tryd.f42 R (.panic c) a w := by
  cases d with
  | none => exact h
  | some k =>
    have hk : k ≠ 6 := fun e => hd (by rw [e])
    refine leaves_tmps ?_ _ _ _ h
    show results Tryd.f42 (a.tmps.setIfInBounds k v) = results Tryd.f42 a.tmps
    simp [results, Tryd.results42, Array.getD_eq_getD_getElem?, Array.getElem?_setIfInBounds_ne hk]
theorem door_line {w wr : World} {X : Nat} {T : TypeId} {kind s : List UInt8} {ks : List Li.Kd} (tmps : Array Value) (h6 : tmps[6]? = some (.pointer (some ⟨w.heap.size, 0, none⟩))) (hb : wr.heap[w.heap.size]? = some (.cells #[.bool false] 4 (0, 0))) (hK : Kp w wr (some X)) (hno : Li.parseLine kind ks s = none) :
    Leaves Tryd.prog Tryd.f42 tmps (LineEnds w X T (Li.parseLine kind ks s)) [{ target := .fn (.func 49) #[.pointer (some ⟨w.heap.size, 0, none⟩)], args := #[] }] (.panicking bad93) wr := by
  refine leaves_cons (f := 49) (args := #[.pointer (some ⟨w.heap.size, 0, none⟩)]) (by simp) (by simp [go_sem]) ?_
  refine (catch_panicking w.heap.size false [] _ hb).mono ?_
  rintro e u' w'' ⟨rfl, rfl, rfl⟩
  have k1 : Kp wr ((wr.alloc (.cells #[] 93)).setCell ⟨w.heap.size, 0, none⟩ (.bool false)) (some w.heap.size) := (((Kp.refl wr none).alloc _).weak _).set _
  have hb2 := heap_set (o := 0) (v := .bool false) ((((Kp.refl wr none).alloc (.cells #[] 93)).block w.heap.size (lt_of_block hb) (by simp)).trans hb)
  have hc : ((wr.alloc (.cells #[] 93)).setCell ⟨w.heap.size, 0, none⟩ (.bool false)).cell? ⟨w.heap.size, 0, none⟩ = some (.bool false) := by rw [Lib.cell_of_heap hb2]; rfl
  have hR : LineEnds w X T (Li.parseLine kind ks s) (.returned (.bool false)) ((wr.alloc (.cells #[] 93)).setCell ⟨w.heap.size, 0, none⟩ (.bool false)) := by rw [hno]; exact ⟨rfl, Kp.of_own hK k1 (Nat.le_refl _)⟩
  simp [Leaves, settle, results, Tryd.results42, go_sem, hc, h6]
  exact hR
theorem door_true {w wr : World} {X : Nat} {T : TypeId} {kind s : List UInt8} {ks : List Li.Kd} {fs : List Li.Fld} (tmps : Array Value) (h6 : tmps[6]? = some (.pointer (some ⟨w.heap.size, 0, none⟩))) (hb : wr.heap[w.heap.size]? = some (.cells #[.bool true] 4 (0, 0))) (hK : Kp w wr (some X)) (hX : wr.heap[X]? = some (.cells (fs.map fldVal).toArray T (0, 0))) (hyes : Li.parseLine kind ks s = some fs) :
    Leaves Tryd.prog Tryd.f42 tmps (LineEnds w X T (Li.parseLine kind ks s)) [{ target := .fn (.func 49) #[.pointer (some ⟨w.heap.size, 0, none⟩)], args := #[] }] .returning wr := by
  refine leaves_cons (f := 49) (args := #[.pointer (some ⟨w.heap.size, 0, none⟩)]) (by simp) (by simp [go_sem]) ?_
  refine (catch_idle ⟨w.heap.size, 0, none⟩ _).mono ?_
  rintro e u' w'' ⟨rfl, rfl, rfl⟩
  have hc : w''.cell? ⟨w.heap.size, 0, none⟩ = some (.bool true) := by rw [Lib.cell_of_heap hb]; rfl
  have hR : LineEnds w X T (Li.parseLine kind ks s) (.returned (.bool true)) w'' := by rw [hyes]; exact ⟨⟨rfl, hX⟩, hK⟩
  simp [Leaves, settle, results, Tryd.results42, go_sem, hc, h6]
  exact hR
theorem one_blank {r : List UInt8} (h : r.take 1 = [32]) : ∃ t, r = 32 :: t := by
  match r, h with
  | c :: t, h => simp at h; exact ⟨t, by rw [h]⟩
set_option maxHeartbeats 8000000 in
set_option maxRecDepth 100000 in
theorem line_prefix (s kind : List UInt8) (ks : List Li.Kd) (fb X : Nat) (T : TypeId) (cs : List Value) (cells : Array Value) (w : World) (he : Env w) (hs : s.length < 1048576) (hk : ks.length ≤ 100) (hcs : cs.length = ks.length)
    (hx : w.heap[X]? = some (.cells cs.toArray T (0, 0))) (hx6 : 6 ≤ X) (hf : w.heap[fb]? = some (.cells cells 20 (0, 0))) (hne : fb ≠ X) (hfc : FldPtrs X ks cells) (hp : s.take kind.length = kind) :
    Calls Tryd.prog 42 #[.string ⟨s.toArray⟩, .string ⟨kind.toArray⟩, .slice (some ⟨fb, 0, none⟩) ks.length ks.length] w (LineEnds w X T (Li.parseLine kind ks s)) := by
  have hmf : ∀ (fn : Fn) (first cap : Array Value) (w : World), (Instr.makeFunc fn first cap).run Tryd.prog w = .ok (.func fn first cap) w := fun _ _ _ _ => rfl
  have HP := Lib.hid hp
  have HE := Lib.hid he
  have HX := Lib.hid hx
  have HF := Lib.hid hf
  have HFC := Lib.hid hfc
  have HCS := Lib.hid hcs
  have hxl : X < w.heap.size := lt_of_block hx
  have hfl : fb < w.heap.size := lt_of_block hf
  have HB := Lib.hid (heap_alloc_new w (.cells #[.bool false] 4))
  have K0 : Hid (Kp w (w.alloc (.cells #[.bool false] 4)) (some X)) := Lib.hid (((Kp.refl w none).alloc _).weak _)
  have HX0 : Hid ((w.alloc (.cells #[.bool false] 4)).heap[X]? = some (.cells cs.toArray T (0, 0))) := Lib.hid ((((Kp.refl w none).alloc (.cells #[.bool false] 4)).block X hxl (by simp)).trans hx)
  clear hp he hx hf hfc hcs
  go_enter_defers Tryd.func42, Tryd.ntmps42
  go_wp2_with fail
  refine (cutPrefix_yes s kind _ HP.out).mono ?_
  rintro e w' ⟨rfl, rfl⟩
  go_wp2_with fail
  refine (need_yes _).mono ?_
  rintro e w' ⟨rfl, rfl⟩
  go_wp2_with fail
  go_outline
  go_loopw [0, 28] (fun v i wr => LnRel w X T cs kind ks s v i wr) (fun _ i _ => ks.length - (intOf i).toNat)
  case atStart => exact ⟨[], s.drop kind.length, Li.On.start HP.out, rfl, rfl, K0.out, by simpa [LCells] using HX0.out, HB.out⟩
  case round =>
    obtain ⟨fs, r, hon, rfl, rfl, hK, hX, hB⟩ := hrel
    have HON := Lib.hid hon
    have HK1 := Lib.hid hK
    have HX1 := Lib.hid hX
    have HB1 := Lib.hid hB
    have hrl : r.length < 1048576 := by have := hon.2.1; omega
    have hjk := hon.1
    clear hon hK hX hB K0 HX0 HB
    have hbz1 := HK1.out.size
    by_cases hlt : fs.length < ks.length
    · have hji : (fs.length : Int) < (ks.length : Int) := by omega
      have hj0 : (0 : Int) ≤ (fs.length : Int) := by omega
      cases hkd : ks[fs.length]
      case i =>
        have cN : wr.cell? ⟨fb, fs.length, none⟩ = some (.iface 79 (.pointer (some ⟨X, fs.length, none⟩))) := ckr HF.out HK1.out (by simpa using fun e => hne e.symm) _ (by have := HFC.out _ hlt; rw [hkd] at this; exact this)
        have HKD := Lib.hid hkd
        clear hkd
        have tt : ∀ (p : Value) (w : World), (Instr.typeAssert (.iface 79 p) 20 79 true).run Tryd.prog w = .ok (.tuple #[p, .bool true]) w := fun p w => by kernel_rfl
        have t80 : ∀ (p : Value) (w : World), (Instr.typeAssert (.iface 79 p) 20 80 true).run Tryd.prog w = .ok (.tuple #[.pointer none, .bool false]) w := fun p w => by kernel_rfl
        by_cases hsp : r.take 1 = [32]
        · obtain ⟨t, rfl⟩ := one_blank hsp
          clear hsp
          have htl : t.length < 1048576 := by simp at hrl; omega
          go_wp2_with fail
          refine (cutPrefix_yes (32 :: t) [32] _ (by simp)).mono ?_
          rintro e w' ⟨rfl, rfl⟩
          go_wp2_with fail
          refine (need_yes _).mono ?_
          rintro e w' ⟨rfl, rfl⟩
          go_wp2_with fail
          obtain ⟨n, hn⟩ : ∃ n, Lib.indexByte t 32 = n := ⟨_, rfl⟩
          have HN := Lib.hid hn
          clear hn
          refine (index_any t 32 _ n HN.out).mono ?_
          rintro e w' ⟨rfl, rfl⟩
          rcases Li.blank_at t n HN.out with ⟨hneg, hu, hf⟩ | ⟨m, hnm, hm, hu, hf⟩
          · have HU := Lib.hid hu
            have HFR := Lib.hid hf
            clear hu hf
            obtain ⟨m, hm⟩ : ∃ m, t.length = m := ⟨_, rfl⟩
            have hm0 : (0 : Int) ≤ (m : Int) := by omega
            have ht0 : (⟨t.toArray⟩ : ByteArray).extract 0 m = ⟨t.toArray⟩ := by rw [← hm, ext_take, List.take_length]
            have ht1 : (⟨t.toArray⟩ : ByteArray).extract m m = ⟨([] : List UInt8).toArray⟩ := by apply ByteArray.ext; simp
            have hm1 : m < 1048576 := by omega
            go_wp2_with fail
            refine (atoi_any ⟨t.toArray⟩ _ (HE.out.kp HK1.out (by intro r h; injection h with h; omega)) (by show t.toArray.size ≤ _; simp; omega)).mono ?_
            rintro e w4 ⟨hat, k4⟩
            have HB4 := Lib.hid ((k4.block _ (lt_of_block HB1.out) (by simp)).trans HB1.out)
            have HK4 := Lib.hid (HK1.out.trans (k4.weak _))
            have HX4 := Lib.hid ((k4.block _ (lt_of_block HX1.out) (by simp)).trans HX1.out)
            clear k4
            rcases hat with ⟨v, hat, rfl⟩ | ⟨v, N, hat, rfl⟩
            · have hv := Wr.atoi_range hat
              have HPP : Hid (Wr.parse t = if Lib.itoa v = t then some v else none) := Lib.hid (Li.parse_ok hat)
              clear hat
              have HV := Lib.hid hv
              clear hv
              obtain ⟨bb, hbb⟩ : ∃ bb, decide (Lib.itoa v = t) = bb := ⟨_, rfl⟩
              have hbq : (Lib.itoa v == t) = bb := by rw [← hbb]; exact beq_dec _ _
              have HBB := Lib.hid hbb
              clear hbb
              go_wp2_with fail
              cases bb
              · refine wp_region_held_drew (S := fun _ => True) (by kernel_rfl) ?_ (fun hHeld => ?_)
                · trivial
                refine wpAnyH_take (i := 0) (oi := _) (v := ?_) rfl (by kernel_rfl) (by kernel_rfl) (by kernel_rfl) (fun c a w h => put42 a _ _ c w (by decide) h) (Or.inl ⟨by rfl, ?_⟩) (by assumption) ?_
                rotate_left
                · (intro w hSw; (try dsimp only at hSw); go_simp <;> with_reducible rfl)
                try simp only [Act.put, List.getElem_toArray, List.getElem_cons_zero, List.setIfInBounds_toArray, List.set_cons_zero, List.set_cons_succ]
                refine wpAnyH_take (i := 1) (oi := _) (v := ?_) rfl (by kernel_rfl) (by kernel_rfl) (by kernel_rfl) (fun c a w h => put42 a _ _ c w (by decide) h) (Or.inl ⟨by rfl, ?_⟩) (by assumption) ?_
                rotate_left
                · (intro w hSw; (try dsimp only at hSw); go_simp <;> with_reducible rfl)
                try simp only [Act.put, List.getElem_toArray, List.getElem_cons_zero, List.getElem_cons_succ, List.setIfInBounds_toArray, List.set_cons_zero, List.set_cons_succ]
                refine wpAnyH_take (i := 2) (oi := _) (v := ?_) rfl (by kernel_rfl) (by kernel_rfl) (by kernel_rfl) (fun c a w h => put42 a _ _ c w (by decide) h) (Or.inl ⟨by rfl, ?_⟩) (by assumption) ?_
                rotate_left
                · (intro w hSw; (try dsimp only at hSw); go_simp <;> with_reducible rfl)
                try simp only [Act.put, List.getElem_toArray, List.getElem_cons_zero, List.getElem_cons_succ, List.setIfInBounds_toArray, List.set_cons_zero, List.set_cons_succ]
                refine wpAnyH_take (i := 3) (oi := _) (v := ?_) rfl (by kernel_rfl) (by kernel_rfl) (by kernel_rfl) (fun c a w h => put42 a _ _ c w (by decide) h) (Or.inl ⟨by rfl, ?_⟩) (by assumption) ?_
                rotate_left
                · (intro w hSw; (try dsimp only at hSw); go_simp <;> with_reducible rfl)
                try simp only [Act.put, List.getElem_toArray, List.getElem_cons_zero, List.getElem_cons_succ, List.setIfInBounds_toArray, List.set_cons_zero, List.set_cons_succ]
                refine wpAnyH_take (i := 5) (oi := _) (v := ?_) rfl (by kernel_rfl) (by kernel_rfl) (by kernel_rfl) (fun c a w h => put42 a _ _ c w (by decide) h) (Or.inl ⟨by rfl, ?_⟩) (by assumption) ?_
                rotate_left
                · (intro w hSw; (try dsimp only at hSw); go_simp <;> with_reducible rfl)
                try simp only [Act.put, List.getElem_toArray, List.getElem_cons_zero, List.getElem_cons_succ, List.setIfInBounds_toArray, List.set_cons_zero, List.set_cons_succ]
                refine wpAnyH_take (i := 6) (oi := _) (v := ?_) rfl (by kernel_rfl) (by kernel_rfl) (by kernel_rfl) (fun c a w h => put42 a _ _ c w (by decide) h) (Or.inl ⟨by rfl, ?_⟩) (by assumption) ?_
                rotate_left
                · (intro w hSw; (try dsimp only at hSw); go_simp <;> with_reducible rfl)
                try simp only [Act.put, List.getElem_toArray, List.getElem_cons_zero, List.getElem_cons_succ, List.setIfInBounds_toArray, List.set_cons_zero, List.set_cons_succ]
                refine wpAnyH_take (i := 7) (oi := _) (v := ?_) rfl (by kernel_rfl) (by kernel_rfl) (by kernel_rfl) (fun c a w h => put42 a _ _ c w (by decide) h) (Or.inl ⟨by rfl, ?_⟩) (by assumption) ?_
                rotate_left
                · (intro w hSw; (try dsimp only at hSw); go_simp <;> with_reducible rfl)
                try simp only [Act.put, List.getElem_toArray, List.getElem_cons_zero, List.getElem_cons_succ, List.setIfInBounds_toArray, List.set_cons_zero, List.set_cons_succ]
                refine wpAnyH_ready (rs := [4]) (by kernel_rfl) (by simp) ?_
                refine AllReadyH.cons (o := _) rfl (fun K hK => ?_) AllReadyH.nil
                clear hHeld
                go_simp
                refine (itoa_any v _ ((HE.out.kp HK4.out (by intro r h; injection h with h; omega)).kp0 (Kp.refl _ _).drew) HV.out).mono ?_
                rintro e w5 ⟨rfl, k5⟩
                have HB5 := Lib.hid ((k5.block _ (show _ < w4.drew.heap.size from lt_of_block HB4.out) (by simp)).trans HB4.out)
                have HK5 := Lib.hid (HK4.out.drew.trans (k5.weak _))
                have HX5 := Lib.hid ((k5.block _ (show _ < w4.drew.heap.size from lt_of_block HX4.out) (by simp)).trans HX4.out)
                clear k5
                try go_wp2_with fail
                refine hK.out _ _ trivial (fun hHeld => ?_)
                clear hK K
                try simp only [Act.put, List.getElem_toArray, List.getElem_cons_zero, List.getElem_cons_succ, List.setIfInBounds_toArray, List.set_cons_zero, List.set_cons_succ]
                refine wpAnyH_take (i := 8) (oi := _) (v := ?_) rfl (by kernel_rfl) (by kernel_rfl) (by kernel_rfl) (fun c a w h => put42 a _ _ c w (by decide) h) (Or.inl ⟨by rfl, ?_⟩) (by assumption) ?_
                rotate_left
                · (intro w hSw; (try dsimp only at hSw); go_simp <;> with_reducible rfl)
                try simp only [Act.put, List.getElem_toArray, List.getElem_cons_zero, List.getElem_cons_succ, List.setIfInBounds_toArray, List.set_cons_zero, List.set_cons_succ]
                refine wpAnyH_take (i := 9) (oi := _) (v := ?_) rfl (by kernel_rfl) (by kernel_rfl) (by kernel_rfl) (fun c a w h => put42 a _ _ c w (by decide) h) (Or.inl ⟨by rfl, ?_⟩) (by assumption) ?_
                rotate_left
                · (intro w hSw; (try dsimp only at hSw); go_simp <;> with_reducible rfl)
                try simp only [Act.put, List.getElem_toArray, List.getElem_cons_zero, List.getElem_cons_succ, List.setIfInBounds_toArray, List.set_cons_zero, List.set_cons_succ]
                refine wpAnyH_ready (rs := [10]) (by kernel_rfl) (by simp) ?_
                refine AllReadyH.cons (o := _) rfl (fun K hK => ?_) AllReadyH.nil
                clear hHeld
                go_simp
                refine (need_no _).mono ?_
                rintro e w' ⟨rfl, rfl⟩
                have HPN : Hid (Li.parseF .i t = none) := Lib.hid (by rw [Li.parseF_i]; rw [HU.out]; rw [HPP.out, if_neg (of_decide_eq_false HBB.out)]; rfl)
                exact door_line _ (by rfl) HB5.out HK5.out (HON.out.bad hlt HKD.out HPN.out)
              · refine wp_region_held_drew (S := fun _ => True) (by kernel_rfl) ?_ (fun hHeld => ?_)
                · trivial
                refine wpAnyH_take (i := 0) (oi := _) (v := ?_) rfl (by kernel_rfl) (by kernel_rfl) (by kernel_rfl) (fun c a w h => put42 a _ _ c w (by decide) h) (Or.inl ⟨by rfl, ?_⟩) (by assumption) ?_
                rotate_left
                · (intro w hSw; (try dsimp only at hSw); go_simp <;> with_reducible rfl)
                try simp only [Act.put, List.getElem_toArray, List.getElem_cons_zero, List.setIfInBounds_toArray, List.set_cons_zero, List.set_cons_succ]
                refine wpAnyH_take (i := 1) (oi := _) (v := ?_) rfl (by kernel_rfl) (by kernel_rfl) (by kernel_rfl) (fun c a w h => put42 a _ _ c w (by decide) h) (Or.inl ⟨by rfl, ?_⟩) (by assumption) ?_
                rotate_left
                · (intro w hSw; (try dsimp only at hSw); go_simp <;> with_reducible rfl)
                try simp only [Act.put, List.getElem_toArray, List.getElem_cons_zero, List.getElem_cons_succ, List.setIfInBounds_toArray, List.set_cons_zero, List.set_cons_succ]
                refine wpAnyH_take (i := 2) (oi := _) (v := ?_) rfl (by kernel_rfl) (by kernel_rfl) (by kernel_rfl) (fun c a w h => put42 a _ _ c w (by decide) h) (Or.inl ⟨by rfl, ?_⟩) (by assumption) ?_
                rotate_left
                · (intro w hSw; (try dsimp only at hSw); go_simp <;> with_reducible rfl)
                try simp only [Act.put, List.getElem_toArray, List.getElem_cons_zero, List.getElem_cons_succ, List.setIfInBounds_toArray, List.set_cons_zero, List.set_cons_succ]
                refine wpAnyH_take (i := 3) (oi := _) (v := ?_) rfl (by kernel_rfl) (by kernel_rfl) (by kernel_rfl) (fun c a w h => put42 a _ _ c w (by decide) h) (Or.inl ⟨by rfl, ?_⟩) (by assumption) ?_
                rotate_left
                · (intro w hSw; (try dsimp only at hSw); go_simp <;> with_reducible rfl)
                try simp only [Act.put, List.getElem_toArray, List.getElem_cons_zero, List.getElem_cons_succ, List.setIfInBounds_toArray, List.set_cons_zero, List.set_cons_succ]
                refine wpAnyH_take (i := 5) (oi := _) (v := ?_) rfl (by kernel_rfl) (by kernel_rfl) (by kernel_rfl) (fun c a w h => put42 a _ _ c w (by decide) h) (Or.inl ⟨by rfl, ?_⟩) (by assumption) ?_
                rotate_left
                · (intro w hSw; (try dsimp only at hSw); go_simp <;> with_reducible rfl)
                try simp only [Act.put, List.getElem_toArray, List.getElem_cons_zero, List.getElem_cons_succ, List.setIfInBounds_toArray, List.set_cons_zero, List.set_cons_succ]
                refine wpAnyH_take (i := 6) (oi := _) (v := ?_) rfl (by kernel_rfl) (by kernel_rfl) (by kernel_rfl) (fun c a w h => put42 a _ _ c w (by decide) h) (Or.inl ⟨by rfl, ?_⟩) (by assumption) ?_
                rotate_left
                · (intro w hSw; (try dsimp only at hSw); go_simp <;> with_reducible rfl)
                try simp only [Act.put, List.getElem_toArray, List.getElem_cons_zero, List.getElem_cons_succ, List.setIfInBounds_toArray, List.set_cons_zero, List.set_cons_succ]
                refine wpAnyH_take (i := 7) (oi := _) (v := ?_) rfl (by kernel_rfl) (by kernel_rfl) (by kernel_rfl) (fun c a w h => put42 a _ _ c w (by decide) h) (Or.inl ⟨by rfl, ?_⟩) (by assumption) ?_
                rotate_left
                · (intro w hSw; (try dsimp only at hSw); go_simp <;> with_reducible rfl)
                try simp only [Act.put, List.getElem_toArray, List.getElem_cons_zero, List.getElem_cons_succ, List.setIfInBounds_toArray, List.set_cons_zero, List.set_cons_succ]
                refine wpAnyH_ready (rs := [4]) (by kernel_rfl) (by simp) ?_
                refine AllReadyH.cons (o := _) rfl (fun K hK => ?_) AllReadyH.nil
                clear hHeld
                go_simp
                refine (itoa_any v _ ((HE.out.kp HK4.out (by intro r h; injection h with h; omega)).kp0 (Kp.refl _ _).drew) HV.out).mono ?_
                rintro e w5 ⟨rfl, k5⟩
                have HB5 := Lib.hid ((k5.block _ (show _ < w4.drew.heap.size from lt_of_block HB4.out) (by simp)).trans HB4.out)
                have HK5 := Lib.hid (HK4.out.drew.trans (k5.weak _))
                have HX5 := Lib.hid ((k5.block _ (show _ < w4.drew.heap.size from lt_of_block HX4.out) (by simp)).trans HX4.out)
                clear k5
                try go_wp2_with fail
                refine hK.out _ _ trivial (fun hHeld => ?_)
                clear hK K
                try simp only [Act.put, List.getElem_toArray, List.getElem_cons_zero, List.getElem_cons_succ, List.setIfInBounds_toArray, List.set_cons_zero, List.set_cons_succ]
                refine wpAnyH_take (i := 8) (oi := _) (v := ?_) rfl (by kernel_rfl) (by kernel_rfl) (by kernel_rfl) (fun c a w h => put42 a _ _ c w (by decide) h) (Or.inl ⟨by rfl, ?_⟩) (by assumption) ?_
                rotate_left
                · (intro w hSw; (try dsimp only at hSw); go_simp <;> with_reducible rfl)
                try simp only [Act.put, List.getElem_toArray, List.getElem_cons_zero, List.getElem_cons_succ, List.setIfInBounds_toArray, List.set_cons_zero, List.set_cons_succ]
                refine wpAnyH_take (i := 9) (oi := _) (v := ?_) rfl (by kernel_rfl) (by kernel_rfl) (by kernel_rfl) (fun c a w h => put42 a _ _ c w (by decide) h) (Or.inl ⟨by rfl, ?_⟩) (by assumption) ?_
                rotate_left
                · (intro w hSw; (try dsimp only at hSw); go_simp <;> with_reducible rfl)
                try simp only [Act.put, List.getElem_toArray, List.getElem_cons_zero, List.getElem_cons_succ, List.setIfInBounds_toArray, List.set_cons_zero, List.set_cons_succ]
                refine wpAnyH_ready (rs := [10]) (by kernel_rfl) (by simp) ?_
                refine AllReadyH.cons (o := _) rfl (fun K hK => ?_) AllReadyH.nil
                clear hHeld
                go_simp
                refine (need_yes _).mono ?_
                rintro e w' ⟨rfl, rfl⟩
                try go_wp2_with fail
                refine hK.out _ _ trivial (fun hHeld => ?_)
                clear hK K hHeld
                refine wpAnyH_done (by kernel_rfl) ?_ _
                clear hbq
                have HPN : Hid (Li.parseF .i t = some (.i v, ([] : List UInt8))) := Lib.hid (by rw [Li.parseF_i]; rw [HU.out]; rw [HPP.out, if_pos (of_decide_eq_true HBB.out)]; rw [HFR.out]; rfl)
                obtain ⟨v0, hv0⟩ := lcells_some cs fs (by rw [HCS.out]; exact hlt)
                have cX : w5.cell? ⟨X, fs.length, none⟩ = some v0 := by rw [Lib.cell_of_heap HX5.out]; exact hv0
                have fX : w5.frozen? ⟨X, fs.length, none⟩ = false := Lib.frozen_of_heap HX5.out _
                clear hv0
                have HREL : Hid (LnRel w X T cs kind ks s (.string ⟨([] : List UInt8).toArray⟩) (.int .i64 (fs.length + 1)) (w5.setCell ⟨X, fs.length, none⟩ (.int .i64 v))) := Lib.hid ⟨fs ++ [.i v], ([] : List UInt8), HON.out.step hlt HKD.out HPN.out, rfl, by rw [List.length_append]; go_num, HK5.out.set _, by rw [← lcells_set cs fs _ (by rw [HCS.out]; exact hlt)]; exact heap_set HX5.out, by rw [Below.heap_setCell _ _ _ _ (show w.heap.size ≠ X by omega)]; exact HB5.out⟩
                go_wp2_with fail
                first | exact ⟨HREL.out, by simp [intOf]; omega⟩ | (go_roundw; all_goals first | exact HREL.out | (simp [intOf]; omega) | ((repeat apply Exists.intro); exact ⟨HREL.out, rfl⟩))
            · have HPP : Hid (Wr.parse t = none) := Lib.hid (Li.parse_err hat)
              clear hat
              have HPN : Hid (Li.parseF .i t = none) := Lib.hid (by rw [Li.parseF_i]; rw [HU.out]; rw [HPP.out]; rfl)
              go_wp2_with fail
              refine wp_region_held_drew (S := fun _ => True) (by kernel_rfl) ?_ (fun hHeld => ?_)
              · trivial
              refine wpAnyH_take (i := 0) (oi := _) (v := ?_) rfl (by kernel_rfl) (by kernel_rfl) (by kernel_rfl) (fun c a w h => put42 a _ _ c w (by decide) h) (Or.inl ⟨by rfl, ?_⟩) (by assumption) ?_
              rotate_left
              · (intro w hSw; (try dsimp only at hSw); go_simp <;> with_reducible rfl)
              try simp only [Act.put, List.getElem_toArray, List.getElem_cons_zero, List.setIfInBounds_toArray, List.set_cons_zero, List.set_cons_succ]
              refine wpAnyH_take (i := 1) (oi := _) (v := ?_) rfl (by kernel_rfl) (by kernel_rfl) (by kernel_rfl) (fun c a w h => put42 a _ _ c w (by decide) h) (Or.inl ⟨by rfl, ?_⟩) (by assumption) ?_
              rotate_left
              · (intro w hSw; (try dsimp only at hSw); go_simp <;> with_reducible rfl)
              try simp only [Act.put, List.getElem_toArray, List.getElem_cons_zero, List.getElem_cons_succ, List.setIfInBounds_toArray, List.set_cons_zero, List.set_cons_succ]
              refine wpAnyH_take (i := 2) (oi := _) (v := ?_) rfl (by kernel_rfl) (by kernel_rfl) (by kernel_rfl) (fun c a w h => put42 a _ _ c w (by decide) h) (Or.inl ⟨by rfl, ?_⟩) (by assumption) ?_
              rotate_left
              · (intro w hSw; (try dsimp only at hSw); go_simp <;> with_reducible rfl)
              try simp only [Act.put, List.getElem_toArray, List.getElem_cons_zero, List.getElem_cons_succ, List.setIfInBounds_toArray, List.set_cons_zero, List.set_cons_succ]
              refine wpAnyH_take (i := 3) (oi := _) (v := undef) rfl (by kernel_rfl) (by kernel_rfl) (by kernel_rfl) (fun c a w h => put42 a _ _ c w (by decide) h) (Or.inr ⟨by rfl, rfl⟩) (by assumption) ?_
              try simp only [Act.put, List.getElem_toArray, List.getElem_cons_zero, List.getElem_cons_succ, List.setIfInBounds_toArray, List.set_cons_zero, List.set_cons_succ]
              refine wpAnyH_take (i := 4) (oi := _) (v := undef) rfl (by kernel_rfl) (by kernel_rfl) (by kernel_rfl) (fun c a w h => put42 a _ _ c w (by decide) h) (Or.inr ⟨by rfl, rfl⟩) (by assumption) ?_
              try simp only [Act.put, List.getElem_toArray, List.getElem_cons_zero, List.getElem_cons_succ, List.setIfInBounds_toArray, List.set_cons_zero, List.set_cons_succ]
              refine wpAnyH_take (i := 5) (oi := _) (v := undef) rfl (by kernel_rfl) (by kernel_rfl) (by kernel_rfl) (fun c a w h => put42 a _ _ c w (by decide) h) (Or.inr ⟨by rfl, rfl⟩) (by assumption) ?_
              try simp only [Act.put, List.getElem_toArray, List.getElem_cons_zero, List.getElem_cons_succ, List.setIfInBounds_toArray, List.set_cons_zero, List.set_cons_succ]
              refine wpAnyH_take (i := 6) (oi := _) (v := undef) rfl (by kernel_rfl) (by kernel_rfl) (by kernel_rfl) (fun c a w h => put42 a _ _ c w (by decide) h) (Or.inr ⟨by rfl, rfl⟩) (by assumption) ?_
              try simp only [Act.put, List.getElem_toArray, List.getElem_cons_zero, List.getElem_cons_succ, List.setIfInBounds_toArray, List.set_cons_zero, List.set_cons_succ]
              refine wpAnyH_take (i := 7) (oi := _) (v := undef) rfl (by kernel_rfl) (by kernel_rfl) (by kernel_rfl) (fun c a w h => put42 a _ _ c w (by decide) h) (Or.inr ⟨by rfl, rfl⟩) (by assumption) ?_
              try simp only [Act.put, List.getElem_toArray, List.getElem_cons_zero, List.getElem_cons_succ, List.setIfInBounds_toArray, List.set_cons_zero, List.set_cons_succ]
              refine wpAnyH_take (i := 8) (oi := _) (v := undef) rfl (by kernel_rfl) (by kernel_rfl) (by kernel_rfl) (fun c a w h => put42 a _ _ c w (by decide) h) (Or.inr ⟨by rfl, rfl⟩) (by assumption) ?_
              try simp only [Act.put, List.getElem_toArray, List.getElem_cons_zero, List.getElem_cons_succ, List.setIfInBounds_toArray, List.set_cons_zero, List.set_cons_succ]
              refine wpAnyH_take (i := 9) (oi := _) (v := ?_) rfl (by kernel_rfl) (by kernel_rfl) (by kernel_rfl) (fun c a w h => put42 a _ _ c w (by decide) h) (Or.inl ⟨by rfl, ?_⟩) (by assumption) ?_
              rotate_left
              · (intro w hSw; (try dsimp only at hSw); go_simp <;> with_reducible rfl)
              try simp only [Act.put, List.getElem_toArray, List.getElem_cons_zero, List.getElem_cons_succ, List.setIfInBounds_toArray, List.set_cons_zero, List.set_cons_succ]
              refine wpAnyH_ready (rs := [10]) (by kernel_rfl) (by simp) ?_
              refine AllReadyH.cons (o := _) rfl (fun K hK => ?_) AllReadyH.nil
              clear hHeld
              go_simp
              refine (need_no _).mono ?_
              rintro e w' ⟨rfl, rfl⟩
              exact door_line _ (by rfl) HB4.out HK4.out.drew (HON.out.bad hlt HKD.out HPN.out)
          · obtain rfl := hnm
            have HU := Lib.hid hu
            have HFR := Lib.hid hf
            clear hu hf
            have hneg : ¬ (m : Int) < 0 := by omega
            have hm0 : (0 : Int) ≤ (m : Int) := by omega
            have hm1 : (m : Int) ≤ (t.length : Int) := by omega
            have ht0 : (⟨t.toArray⟩ : ByteArray).extract 0 m = ⟨(t.take m).toArray⟩ := ext_take t m
            have ht1 : (⟨t.toArray⟩ : ByteArray).extract m t.length = ⟨(t.drop m).toArray⟩ := ext_drop t m
            go_wp2_with fail
            refine (atoi_any ⟨(t.take m).toArray⟩ _ (HE.out.kp HK1.out (by intro r h; injection h with h; omega)) (by show (t.take m).toArray.size ≤ _; simp; omega)).mono ?_
            rintro e w4 ⟨hat, k4⟩
            have HB4 := Lib.hid ((k4.block _ (lt_of_block HB1.out) (by simp)).trans HB1.out)
            have HK4 := Lib.hid (HK1.out.trans (k4.weak _))
            have HX4 := Lib.hid ((k4.block _ (lt_of_block HX1.out) (by simp)).trans HX1.out)
            clear k4
            rcases hat with ⟨v, hat, rfl⟩ | ⟨v, N, hat, rfl⟩
            · have hv := Wr.atoi_range hat
              have HPP : Hid (Wr.parse (t.take m) = if Lib.itoa v = (t.take m) then some v else none) := Lib.hid (Li.parse_ok hat)
              clear hat
              have HV := Lib.hid hv
              clear hv
              obtain ⟨bb, hbb⟩ : ∃ bb, decide (Lib.itoa v = (t.take m)) = bb := ⟨_, rfl⟩
              have hbq : (Lib.itoa v == (t.take m)) = bb := by rw [← hbb]; exact beq_dec _ _
              have HBB := Lib.hid hbb
              clear hbb
              go_wp2_with fail
              cases bb
              · refine wp_region_held_drew (S := fun _ => True) (by kernel_rfl) ?_ (fun hHeld => ?_)
                · trivial
                refine wpAnyH_take (i := 0) (oi := _) (v := ?_) rfl (by kernel_rfl) (by kernel_rfl) (by kernel_rfl) (fun c a w h => put42 a _ _ c w (by decide) h) (Or.inl ⟨by rfl, ?_⟩) (by assumption) ?_
                rotate_left
                · (intro w hSw; (try dsimp only at hSw); go_simp <;> with_reducible rfl)
                try simp only [Act.put, List.getElem_toArray, List.getElem_cons_zero, List.setIfInBounds_toArray, List.set_cons_zero, List.set_cons_succ]
                refine wpAnyH_take (i := 1) (oi := _) (v := ?_) rfl (by kernel_rfl) (by kernel_rfl) (by kernel_rfl) (fun c a w h => put42 a _ _ c w (by decide) h) (Or.inl ⟨by rfl, ?_⟩) (by assumption) ?_
                rotate_left
                · (intro w hSw; (try dsimp only at hSw); go_simp <;> with_reducible rfl)
                try simp only [Act.put, List.getElem_toArray, List.getElem_cons_zero, List.getElem_cons_succ, List.setIfInBounds_toArray, List.set_cons_zero, List.set_cons_succ]
                refine wpAnyH_take (i := 2) (oi := _) (v := ?_) rfl (by kernel_rfl) (by kernel_rfl) (by kernel_rfl) (fun c a w h => put42 a _ _ c w (by decide) h) (Or.inl ⟨by rfl, ?_⟩) (by assumption) ?_
                rotate_left
                · (intro w hSw; (try dsimp only at hSw); go_simp <;> with_reducible rfl)
                try simp only [Act.put, List.getElem_toArray, List.getElem_cons_zero, List.getElem_cons_succ, List.setIfInBounds_toArray, List.set_cons_zero, List.set_cons_succ]
                refine wpAnyH_take (i := 3) (oi := _) (v := ?_) rfl (by kernel_rfl) (by kernel_rfl) (by kernel_rfl) (fun c a w h => put42 a _ _ c w (by decide) h) (Or.inl ⟨by rfl, ?_⟩) (by assumption) ?_
                rotate_left
                · (intro w hSw; (try dsimp only at hSw); go_simp <;> with_reducible rfl)
                try simp only [Act.put, List.getElem_toArray, List.getElem_cons_zero, List.getElem_cons_succ, List.setIfInBounds_toArray, List.set_cons_zero, List.set_cons_succ]
                refine wpAnyH_take (i := 5) (oi := _) (v := ?_) rfl (by kernel_rfl) (by kernel_rfl) (by kernel_rfl) (fun c a w h => put42 a _ _ c w (by decide) h) (Or.inl ⟨by rfl, ?_⟩) (by assumption) ?_
                rotate_left
                · (intro w hSw; (try dsimp only at hSw); go_simp <;> with_reducible rfl)
                try simp only [Act.put, List.getElem_toArray, List.getElem_cons_zero, List.getElem_cons_succ, List.setIfInBounds_toArray, List.set_cons_zero, List.set_cons_succ]
                refine wpAnyH_take (i := 6) (oi := _) (v := ?_) rfl (by kernel_rfl) (by kernel_rfl) (by kernel_rfl) (fun c a w h => put42 a _ _ c w (by decide) h) (Or.inl ⟨by rfl, ?_⟩) (by assumption) ?_
                rotate_left
                · (intro w hSw; (try dsimp only at hSw); go_simp <;> with_reducible rfl)
                try simp only [Act.put, List.getElem_toArray, List.getElem_cons_zero, List.getElem_cons_succ, List.setIfInBounds_toArray, List.set_cons_zero, List.set_cons_succ]
                refine wpAnyH_take (i := 7) (oi := _) (v := ?_) rfl (by kernel_rfl) (by kernel_rfl) (by kernel_rfl) (fun c a w h => put42 a _ _ c w (by decide) h) (Or.inl ⟨by rfl, ?_⟩) (by assumption) ?_
                rotate_left
                · (intro w hSw; (try dsimp only at hSw); go_simp <;> with_reducible rfl)
                try simp only [Act.put, List.getElem_toArray, List.getElem_cons_zero, List.getElem_cons_succ, List.setIfInBounds_toArray, List.set_cons_zero, List.set_cons_succ]
                refine wpAnyH_ready (rs := [4]) (by kernel_rfl) (by simp) ?_
                refine AllReadyH.cons (o := _) rfl (fun K hK => ?_) AllReadyH.nil
                clear hHeld
                go_simp
                refine (itoa_any v _ ((HE.out.kp HK4.out (by intro r h; injection h with h; omega)).kp0 (Kp.refl _ _).drew) HV.out).mono ?_
                rintro e w5 ⟨rfl, k5⟩
                have HB5 := Lib.hid ((k5.block _ (show _ < w4.drew.heap.size from lt_of_block HB4.out) (by simp)).trans HB4.out)
                have HK5 := Lib.hid (HK4.out.drew.trans (k5.weak _))
                have HX5 := Lib.hid ((k5.block _ (show _ < w4.drew.heap.size from lt_of_block HX4.out) (by simp)).trans HX4.out)
                clear k5
                try go_wp2_with fail
                refine hK.out _ _ trivial (fun hHeld => ?_)
                clear hK K
                try simp only [Act.put, List.getElem_toArray, List.getElem_cons_zero, List.getElem_cons_succ, List.setIfInBounds_toArray, List.set_cons_zero, List.set_cons_succ]
                refine wpAnyH_take (i := 8) (oi := _) (v := ?_) rfl (by kernel_rfl) (by kernel_rfl) (by kernel_rfl) (fun c a w h => put42 a _ _ c w (by decide) h) (Or.inl ⟨by rfl, ?_⟩) (by assumption) ?_
                rotate_left
                · (intro w hSw; (try dsimp only at hSw); go_simp <;> with_reducible rfl)
                try simp only [Act.put, List.getElem_toArray, List.getElem_cons_zero, List.getElem_cons_succ, List.setIfInBounds_toArray, List.set_cons_zero, List.set_cons_succ]
                refine wpAnyH_take (i := 9) (oi := _) (v := ?_) rfl (by kernel_rfl) (by kernel_rfl) (by kernel_rfl) (fun c a w h => put42 a _ _ c w (by decide) h) (Or.inl ⟨by rfl, ?_⟩) (by assumption) ?_
                rotate_left
                · (intro w hSw; (try dsimp only at hSw); go_simp <;> with_reducible rfl)
                try simp only [Act.put, List.getElem_toArray, List.getElem_cons_zero, List.getElem_cons_succ, List.setIfInBounds_toArray, List.set_cons_zero, List.set_cons_succ]
                refine wpAnyH_ready (rs := [10]) (by kernel_rfl) (by simp) ?_
                refine AllReadyH.cons (o := _) rfl (fun K hK => ?_) AllReadyH.nil
                clear hHeld
                go_simp
                refine (need_no _).mono ?_
                rintro e w' ⟨rfl, rfl⟩
                have HPN : Hid (Li.parseF .i t = none) := Lib.hid (by rw [Li.parseF_i]; rw [← HU.out]; rw [HPP.out, if_neg (of_decide_eq_false HBB.out)]; rfl)
                exact door_line _ (by rfl) HB5.out HK5.out (HON.out.bad hlt HKD.out HPN.out)
              · refine wp_region_held_drew (S := fun _ => True) (by kernel_rfl) ?_ (fun hHeld => ?_)
                · trivial
                refine wpAnyH_take (i := 0) (oi := _) (v := ?_) rfl (by kernel_rfl) (by kernel_rfl) (by kernel_rfl) (fun c a w h => put42 a _ _ c w (by decide) h) (Or.inl ⟨by rfl, ?_⟩) (by assumption) ?_
                rotate_left
                · (intro w hSw; (try dsimp only at hSw); go_simp <;> with_reducible rfl)
                try simp only [Act.put, List.getElem_toArray, List.getElem_cons_zero, List.setIfInBounds_toArray, List.set_cons_zero, List.set_cons_succ]
                refine wpAnyH_take (i := 1) (oi := _) (v := ?_) rfl (by kernel_rfl) (by kernel_rfl) (by kernel_rfl) (fun c a w h => put42 a _ _ c w (by decide) h) (Or.inl ⟨by rfl, ?_⟩) (by assumption) ?_
                rotate_left
                · (intro w hSw; (try dsimp only at hSw); go_simp <;> with_reducible rfl)
                try simp only [Act.put, List.getElem_toArray, List.getElem_cons_zero, List.getElem_cons_succ, List.setIfInBounds_toArray, List.set_cons_zero, List.set_cons_succ]
                refine wpAnyH_take (i := 2) (oi := _) (v := ?_) rfl (by kernel_rfl) (by kernel_rfl) (by kernel_rfl) (fun c a w h => put42 a _ _ c w (by decide) h) (Or.inl ⟨by rfl, ?_⟩) (by assumption) ?_
                rotate_left
                · (intro w hSw; (try dsimp only at hSw); go_simp <;> with_reducible rfl)
                try simp only [Act.put, List.getElem_toArray, List.getElem_cons_zero, List.getElem_cons_succ, List.setIfInBounds_toArray, List.set_cons_zero, List.set_cons_succ]
                refine wpAnyH_take (i := 3) (oi := _) (v := ?_) rfl (by kernel_rfl) (by kernel_rfl) (by kernel_rfl) (fun c a w h => put42 a _ _ c w (by decide) h) (Or.inl ⟨by rfl, ?_⟩) (by assumption) ?_
                rotate_left
                · (intro w hSw; (try dsimp only at hSw); go_simp <;> with_reducible rfl)
                try simp only [Act.put, List.getElem_toArray, List.getElem_cons_zero, List.getElem_cons_succ, List.setIfInBounds_toArray, List.set_cons_zero, List.set_cons_succ]
                refine wpAnyH_take (i := 5) (oi := _) (v := ?_) rfl (by kernel_rfl) (by kernel_rfl) (by kernel_rfl) (fun c a w h => put42 a _ _ c w (by decide) h) (Or.inl ⟨by rfl, ?_⟩) (by assumption) ?_
                rotate_left
                · (intro w hSw; (try dsimp only at hSw); go_simp <;> with_reducible rfl)
                try simp only [Act.put, List.getElem_toArray, List.getElem_cons_zero, List.getElem_cons_succ, List.setIfInBounds_toArray, List.set_cons_zero, List.set_cons_succ]
                refine wpAnyH_take (i := 6) (oi := _) (v := ?_) rfl (by kernel_rfl) (by kernel_rfl) (by kernel_rfl) (fun c a w h => put42 a _ _ c w (by decide) h) (Or.inl ⟨by rfl, ?_⟩) (by assumption) ?_
                rotate_left
                · (intro w hSw; (try dsimp only at hSw); go_simp <;> with_reducible rfl)
                try simp only [Act.put, List.getElem_toArray, List.getElem_cons_zero, List.getElem_cons_succ, List.setIfInBounds_toArray, List.set_cons_zero, List.set_cons_succ]
                refine wpAnyH_take (i := 7) (oi := _) (v := ?_) rfl (by kernel_rfl) (by kernel_rfl) (by kernel_rfl) (fun c a w h => put42 a _ _ c w (by decide) h) (Or.inl ⟨by rfl, ?_⟩) (by assumption) ?_
                rotate_left
                · (intro w hSw; (try dsimp only at hSw); go_simp <;> with_reducible rfl)
                try simp only [Act.put, List.getElem_toArray, List.getElem_cons_zero, List.getElem_cons_succ, List.setIfInBounds_toArray, List.set_cons_zero, List.set_cons_succ]
                refine wpAnyH_ready (rs := [4]) (by kernel_rfl) (by simp) ?_
                refine AllReadyH.cons (o := _) rfl (fun K hK => ?_) AllReadyH.nil
                clear hHeld
                go_simp
                refine (itoa_any v _ ((HE.out.kp HK4.out (by intro r h; injection h with h; omega)).kp0 (Kp.refl _ _).drew) HV.out).mono ?_
                rintro e w5 ⟨rfl, k5⟩
                have HB5 := Lib.hid ((k5.block _ (show _ < w4.drew.heap.size from lt_of_block HB4.out) (by simp)).trans HB4.out)
                have HK5 := Lib.hid (HK4.out.drew.trans (k5.weak _))
                have HX5 := Lib.hid ((k5.block _ (show _ < w4.drew.heap.size from lt_of_block HX4.out) (by simp)).trans HX4.out)
                clear k5
                try go_wp2_with fail
                refine hK.out _ _ trivial (fun hHeld => ?_)
                clear hK K
                try simp only [Act.put, List.getElem_toArray, List.getElem_cons_zero, List.getElem_cons_succ, List.setIfInBounds_toArray, List.set_cons_zero, List.set_cons_succ]
                refine wpAnyH_take (i := 8) (oi := _) (v := ?_) rfl (by kernel_rfl) (by kernel_rfl) (by kernel_rfl) (fun c a w h => put42 a _ _ c w (by decide) h) (Or.inl ⟨by rfl, ?_⟩) (by assumption) ?_
                rotate_left
                · (intro w hSw; (try dsimp only at hSw); go_simp <;> with_reducible rfl)
                try simp only [Act.put, List.getElem_toArray, List.getElem_cons_zero, List.getElem_cons_succ, List.setIfInBounds_toArray, List.set_cons_zero, List.set_cons_succ]
                refine wpAnyH_take (i := 9) (oi := _) (v := ?_) rfl (by kernel_rfl) (by kernel_rfl) (by kernel_rfl) (fun c a w h => put42 a _ _ c w (by decide) h) (Or.inl ⟨by rfl, ?_⟩) (by assumption) ?_
                rotate_left
                · (intro w hSw; (try dsimp only at hSw); go_simp <;> with_reducible rfl)
                try simp only [Act.put, List.getElem_toArray, List.getElem_cons_zero, List.getElem_cons_succ, List.setIfInBounds_toArray, List.set_cons_zero, List.set_cons_succ]
                refine wpAnyH_ready (rs := [10]) (by kernel_rfl) (by simp) ?_
                refine AllReadyH.cons (o := _) rfl (fun K hK => ?_) AllReadyH.nil
                clear hHeld
                go_simp
                refine (need_yes _).mono ?_
                rintro e w' ⟨rfl, rfl⟩
                try go_wp2_with fail
                refine hK.out _ _ trivial (fun hHeld => ?_)
                clear hK K hHeld
                refine wpAnyH_done (by kernel_rfl) ?_ _
                clear hbq
                have HPN : Hid (Li.parseF .i t = some (.i v, (t.drop m))) := Lib.hid (by rw [Li.parseF_i]; rw [← HU.out]; rw [HPP.out, if_pos (of_decide_eq_true HBB.out)]; rw [← HFR.out]; rfl)
                obtain ⟨v0, hv0⟩ := lcells_some cs fs (by rw [HCS.out]; exact hlt)
                have cX : w5.cell? ⟨X, fs.length, none⟩ = some v0 := by rw [Lib.cell_of_heap HX5.out]; exact hv0
                have fX : w5.frozen? ⟨X, fs.length, none⟩ = false := Lib.frozen_of_heap HX5.out _
                clear hv0
                have HREL : Hid (LnRel w X T cs kind ks s (.string ⟨(t.drop m).toArray⟩) (.int .i64 (fs.length + 1)) (w5.setCell ⟨X, fs.length, none⟩ (.int .i64 v))) := Lib.hid ⟨fs ++ [.i v], (t.drop m), HON.out.step hlt HKD.out HPN.out, rfl, by rw [List.length_append]; go_num, HK5.out.set _, by rw [← lcells_set cs fs _ (by rw [HCS.out]; exact hlt)]; exact heap_set HX5.out, by rw [Below.heap_setCell _ _ _ _ (show w.heap.size ≠ X by omega)]; exact HB5.out⟩
                go_wp2_with fail
                first | exact ⟨HREL.out, by simp [intOf]; omega⟩ | (go_roundw; all_goals first | exact HREL.out | (simp [intOf]; omega) | ((repeat apply Exists.intro); exact ⟨HREL.out, rfl⟩))
            · have HPP : Hid (Wr.parse (t.take m) = none) := Lib.hid (Li.parse_err hat)
              clear hat
              have HPN : Hid (Li.parseF .i t = none) := Lib.hid (by rw [Li.parseF_i]; rw [← HU.out]; rw [HPP.out]; rfl)
              go_wp2_with fail
              refine wp_region_held_drew (S := fun _ => True) (by kernel_rfl) ?_ (fun hHeld => ?_)
              · trivial
              refine wpAnyH_take (i := 0) (oi := _) (v := ?_) rfl (by kernel_rfl) (by kernel_rfl) (by kernel_rfl) (fun c a w h => put42 a _ _ c w (by decide) h) (Or.inl ⟨by rfl, ?_⟩) (by assumption) ?_
              rotate_left
              · (intro w hSw; (try dsimp only at hSw); go_simp <;> with_reducible rfl)
              try simp only [Act.put, List.getElem_toArray, List.getElem_cons_zero, List.setIfInBounds_toArray, List.set_cons_zero, List.set_cons_succ]
              refine wpAnyH_take (i := 1) (oi := _) (v := ?_) rfl (by kernel_rfl) (by kernel_rfl) (by kernel_rfl) (fun c a w h => put42 a _ _ c w (by decide) h) (Or.inl ⟨by rfl, ?_⟩) (by assumption) ?_
              rotate_left
              · (intro w hSw; (try dsimp only at hSw); go_simp <;> with_reducible rfl)
              try simp only [Act.put, List.getElem_toArray, List.getElem_cons_zero, List.getElem_cons_succ, List.setIfInBounds_toArray, List.set_cons_zero, List.set_cons_succ]
              refine wpAnyH_take (i := 2) (oi := _) (v := ?_) rfl (by kernel_rfl) (by kernel_rfl) (by kernel_rfl) (fun c a w h => put42 a _ _ c w (by decide) h) (Or.inl ⟨by rfl, ?_⟩) (by assumption) ?_
              rotate_left
              · (intro w hSw; (try dsimp only at hSw); go_simp <;> with_reducible rfl)
              try simp only [Act.put, List.getElem_toArray, List.getElem_cons_zero, List.getElem_cons_succ, List.setIfInBounds_toArray, List.set_cons_zero, List.set_cons_succ]
              refine wpAnyH_take (i := 3) (oi := _) (v := undef) rfl (by kernel_rfl) (by kernel_rfl) (by kernel_rfl) (fun c a w h => put42 a _ _ c w (by decide) h) (Or.inr ⟨by rfl, rfl⟩) (by assumption) ?_
              try simp only [Act.put, List.getElem_toArray, List.getElem_cons_zero, List.getElem_cons_succ, List.setIfInBounds_toArray, List.set_cons_zero, List.set_cons_succ]
              refine wpAnyH_take (i := 4) (oi := _) (v := undef) rfl (by kernel_rfl) (by kernel_rfl) (by kernel_rfl) (fun c a w h => put42 a _ _ c w (by decide) h) (Or.inr ⟨by rfl, rfl⟩) (by assumption) ?_
              try simp only [Act.put, List.getElem_toArray, List.getElem_cons_zero, List.getElem_cons_succ, List.setIfInBounds_toArray, List.set_cons_zero, List.set_cons_succ]
              refine wpAnyH_take (i := 5) (oi := _) (v := undef) rfl (by kernel_rfl) (by kernel_rfl) (by kernel_rfl) (fun c a w h => put42 a _ _ c w (by decide) h) (Or.inr ⟨by rfl, rfl⟩) (by assumption) ?_
              try simp only [Act.put, List.getElem_toArray, List.getElem_cons_zero, List.getElem_cons_succ, List.setIfInBounds_toArray, List.set_cons_zero, List.set_cons_succ]
              refine wpAnyH_take (i := 6) (oi := _) (v := undef) rfl (by kernel_rfl) (by kernel_rfl) (by kernel_rfl) (fun c a w h => put42 a _ _ c w (by decide) h) (Or.inr ⟨by rfl, rfl⟩) (by assumption) ?_
              try simp only [Act.put, List.getElem_toArray, List.getElem_cons_zero, List.getElem_cons_succ, List.setIfInBounds_toArray, List.set_cons_zero, List.set_cons_succ]
              refine wpAnyH_take (i := 7) (oi := _) (v := undef) rfl (by kernel_rfl) (by kernel_rfl) (by kernel_rfl) (fun c a w h => put42 a _ _ c w (by decide) h) (Or.inr ⟨by rfl, rfl⟩) (by assumption) ?_
              try simp only [Act.put, List.getElem_toArray, List.getElem_cons_zero, List.getElem_cons_succ, List.setIfInBounds_toArray, List.set_cons_zero, List.set_cons_succ]
              refine wpAnyH_take (i := 8) (oi := _) (v := undef) rfl (by kernel_rfl) (by kernel_rfl) (by kernel_rfl) (fun c a w h => put42 a _ _ c w (by decide) h) (Or.inr ⟨by rfl, rfl⟩) (by assumption) ?_
              try simp only [Act.put, List.getElem_toArray, List.getElem_cons_zero, List.getElem_cons_succ, List.setIfInBounds_toArray, List.set_cons_zero, List.set_cons_succ]
              refine wpAnyH_take (i := 9) (oi := _) (v := ?_) rfl (by kernel_rfl) (by kernel_rfl) (by kernel_rfl) (fun c a w h => put42 a _ _ c w (by decide) h) (Or.inl ⟨by rfl, ?_⟩) (by assumption) ?_
              rotate_left
              · (intro w hSw; (try dsimp only at hSw); go_simp <;> with_reducible rfl)
              try simp only [Act.put, List.getElem_toArray, List.getElem_cons_zero, List.getElem_cons_succ, List.setIfInBounds_toArray, List.set_cons_zero, List.set_cons_succ]
              refine wpAnyH_ready (rs := [10]) (by kernel_rfl) (by simp) ?_
              refine AllReadyH.cons (o := _) rfl (fun K hK => ?_) AllReadyH.nil
              clear hHeld
              go_simp
              refine (need_no _).mono ?_
              rintro e w' ⟨rfl, rfl⟩
              exact door_line _ (by rfl) HB4.out HK4.out.drew (HON.out.bad hlt HKD.out HPN.out)
        · have HSP := Lib.hid hsp
          clear hsp
          go_wp2_with fail
          refine (cutPrefix_no r [32] _ HSP.out).mono ?_
          rintro e w' ⟨rfl, rfl⟩
          go_wp2_with fail
          refine (need_no _).mono ?_
          rintro e w' ⟨rfl, rfl⟩
          exact door_line _ (by rfl) HB1.out HK1.out (HON.out.no hlt HSP.out)
      case s =>
        have cN : wr.cell? ⟨fb, fs.length, none⟩ = some (.iface 80 (.pointer (some ⟨X, fs.length, none⟩))) := ckr HF.out HK1.out (by simpa using fun e => hne e.symm) _ (by have := HFC.out _ hlt; rw [hkd] at this; exact this)
        have HKD := Lib.hid hkd
        clear hkd
        have tt : ∀ (p : Value) (w : World), (Instr.typeAssert (.iface 80 p) 20 80 true).run Tryd.prog w = .ok (.tuple #[p, .bool true]) w := fun p w => by kernel_rfl
        by_cases hsp : r.take 1 = [32]
        · obtain ⟨t, rfl⟩ := one_blank hsp
          clear hsp
          have htl : t.length < 1048576 := by simp at hrl; omega
          go_wp2_with fail
          refine (cutPrefix_yes (32 :: t) [32] _ (by simp)).mono ?_
          rintro e w' ⟨rfl, rfl⟩
          go_wp2_with fail
          refine (need_yes _).mono ?_
          rintro e w' ⟨rfl, rfl⟩
          go_wp2_with fail
          cases hq : Li.quoted t with
          | none =>
            have HPN : Hid (Li.parseF .s t = none) := Lib.hid (by unfold Li.parseF; simp only [hq]; rfl)
            have HQ := Lib.hid hq
            clear hq
            refine (quoted_any t _ (HE.out.kp HK1.out (by intro r h; injection h with h; omega)) htl).mono ?_
            rintro e w4 hqe
            rw [HQ.out] at hqe
            obtain ⟨rfl, k4⟩ := hqe
            have HB4 := Lib.hid ((k4.block _ (lt_of_block HB1.out) (by simp)).trans HB1.out)
            have HK4 := Lib.hid (HK1.out.trans (k4.weak _))
            exact door_line _ (by rfl) HB4.out HK4.out (HON.out.bad hlt HKD.out HPN.out)
          | some p =>
            obtain ⟨d, r'⟩ := p
            have HPN : Hid (Li.parseF .s t = some (.s d, r')) := Lib.hid (by unfold Li.parseF; simp only [hq]; rfl)
            have HQ := Lib.hid hq
            clear hq
            refine (quoted_any t _ (HE.out.kp HK1.out (by intro r h; injection h with h; omega)) htl).mono ?_
            rintro e w4 hqe
            rw [HQ.out] at hqe
            obtain ⟨rfl, k4⟩ := hqe
            have HB4 := Lib.hid ((k4.block _ (lt_of_block HB1.out) (by simp)).trans HB1.out)
            have HK4 := Lib.hid (HK1.out.trans (k4.weak _))
            have HX4 := Lib.hid ((k4.block _ (lt_of_block HX1.out) (by simp)).trans HX1.out)
            obtain ⟨v0, hv0⟩ := lcells_some cs fs (by rw [HCS.out]; exact hlt)
            have cX : w4.cell? ⟨X, fs.length, none⟩ = some v0 := by rw [Lib.cell_of_heap HX4.out]; exact hv0
            have fX : w4.frozen? ⟨X, fs.length, none⟩ = false := Lib.frozen_of_heap HX4.out _
            clear hv0
            have HREL : Hid (LnRel w X T cs kind ks s (.string ⟨r'.toArray⟩) (.int .i64 (fs.length + 1)) (w4.setCell ⟨X, fs.length, none⟩ (.string ⟨d.toArray⟩))) := Lib.hid ⟨fs ++ [.s d], r', HON.out.step hlt HKD.out HPN.out, rfl, by rw [List.length_append]; go_num, HK4.out.set _, by rw [← lcells_set cs fs _ (by rw [HCS.out]; exact hlt)]; exact heap_set HX4.out, by rw [Below.heap_setCell _ _ _ _ (show w.heap.size ≠ X by omega)]; exact HB4.out⟩
            go_wp2_with fail
            first | exact ⟨HREL.out, by simp [intOf]; omega⟩ | (go_roundw; all_goals first | exact HREL.out | (simp [intOf]; omega) | ((repeat apply Exists.intro); exact ⟨HREL.out, rfl⟩))
        · have HSP := Lib.hid hsp
          clear hsp
          go_wp2_with fail
          refine (cutPrefix_no r [32] _ HSP.out).mono ?_
          rintro e w' ⟨rfl, rfl⟩
          go_wp2_with fail
          refine (need_no _).mono ?_
          rintro e w' ⟨rfl, rfl⟩
          exact door_line _ (by rfl) HB1.out HK1.out (HON.out.no hlt HSP.out)
      case b =>
        have cN : wr.cell? ⟨fb, fs.length, none⟩ = some (.iface 81 (.pointer (some ⟨X, fs.length, none⟩))) := ckr HF.out HK1.out (by simpa using fun e => hne e.symm) _ (by have := HFC.out _ hlt; rw [hkd] at this; exact this)
        have HKD := Lib.hid hkd
        clear hkd
        have t79 : ∀ (p : Value) (w : World), (Instr.typeAssert (.iface 81 p) 20 79 true).run Tryd.prog w = .ok (.tuple #[.pointer none, .bool false]) w := fun p w => by kernel_rfl
        have t80 : ∀ (p : Value) (w : World), (Instr.typeAssert (.iface 81 p) 20 80 true).run Tryd.prog w = .ok (.tuple #[.pointer none, .bool false]) w := fun p w => by kernel_rfl
        have tt : ∀ (p : Value) (w : World), (Instr.typeAssert (.iface 81 p) 20 81 true).run Tryd.prog w = .ok (.tuple #[p, .bool true]) w := fun p w => by kernel_rfl
        by_cases hsp : r.take 1 = [32]
        · obtain ⟨t, rfl⟩ := one_blank hsp
          clear hsp
          have htl : t.length < 1048576 := by simp at hrl; omega
          go_wp2_with fail
          refine (cutPrefix_yes (32 :: t) [32] _ (by simp)).mono ?_
          rintro e w' ⟨rfl, rfl⟩
          go_wp2_with fail
          refine (need_yes _).mono ?_
          rintro e w' ⟨rfl, rfl⟩
          go_wp2_with fail
          obtain ⟨n, hn⟩ : ∃ n, Lib.indexByte t 32 = n := ⟨_, rfl⟩
          have HN := Lib.hid hn
          clear hn
          refine (index_any t 32 _ n HN.out).mono ?_
          rintro e w' ⟨rfl, rfl⟩
          rcases Li.blank_at t n HN.out with ⟨hneg, hu, hf⟩ | ⟨m, hnm, hm, hu, hf⟩
          · have HU := Lib.hid hu
            have HFR := Lib.hid hf
            clear hu hf
            obtain ⟨m, hm⟩ : ∃ m, t.length = m := ⟨_, rfl⟩
            have hm0 : (0 : Int) ≤ (m : Int) := by omega
            have ht0 : (⟨t.toArray⟩ : ByteArray).extract 0 m = ⟨t.toArray⟩ := by rw [← hm, ext_take, List.take_length]
            have ht1 : (⟨t.toArray⟩ : ByteArray).extract m m = ⟨([] : List UInt8).toArray⟩ := by apply ByteArray.ext; simp
            have hm1 : m < 1048576 := by omega
            obtain ⟨x, hx⟩ : ∃ x, decide (t = Li.side true) = x := ⟨_, rfl⟩
            have hbx : (t == Li.side true) = x := by rw [← hx]; exact beq_dec _ _
            have HX := Lib.hid hx
            clear hx
            obtain ⟨y, hy⟩ : ∃ y, decide (t = Li.side x) = y := ⟨_, rfl⟩
            have hby : (t == Li.side x) = y := by rw [← hy]; exact beq_dec _ _
            have HY := Lib.hid hy
            clear hy
            have HPP : Hid (Li.parseF .b t = if t = Li.side x then some (.b x, ([] : List UInt8)) else none) := Lib.hid (by have := Li.parseF_b t x (by rw [HU.out]; exact HX.out); rw [this]; rw [HU.out]; rw [HFR.out])
            obtain ⟨v0, hv0⟩ := lcells_some cs fs (by rw [HCS.out]; exact hlt)
            have cX : wr.cell? ⟨X, fs.length, none⟩ = some v0 := by rw [Lib.cell_of_heap HX1.out]; exact hv0
            have fX : wr.frozen? ⟨X, fs.length, none⟩ = false := Lib.frozen_of_heap HX1.out _
            clear hv0
            have HX6 := Lib.hid (heap_set (o := fs.length) (v := .bool x) HX1.out)
            have HK6 := Lib.hid (HK1.out.set (o := fs.length) (.bool x))
            have HB6 : Hid ((wr.setCell ⟨X, fs.length, none⟩ (.bool x)).heap[w.heap.size]? = some (.cells #[.bool false] 4 (0, 0))) := Lib.hid (by rw [Below.heap_setCell _ _ _ _ (show w.heap.size ≠ X by omega)]; exact HB1.out)
            have cX6 : (wr.setCell ⟨X, fs.length, none⟩ (.bool x)).cell? ⟨X, fs.length, none⟩ = some (.bool x) := World.cell?_setCell_same _ _ _ cX
            go_wp2_with fail
            refine wp_region_held_drew (S := fun _ => True) (by kernel_rfl) ?_ (fun hHeld => ?_)
            · trivial
            refine wpAnyH_take (i := 0) (oi := _) (v := ?_) rfl (by kernel_rfl) (by kernel_rfl) (by kernel_rfl) (fun c a w h => put42 a _ _ c w (by decide) h) (Or.inl ⟨by rfl, ?_⟩) (by assumption) ?_
            rotate_left
            · (intro w hSw; (try dsimp only at hSw); go_simp <;> with_reducible rfl)
            try simp only [Act.put, List.getElem_toArray, List.getElem_cons_zero, List.setIfInBounds_toArray, List.set_cons_zero, List.set_cons_succ]
            refine wpAnyH_take (i := 1) (oi := _) (v := ?_) rfl (by kernel_rfl) (by kernel_rfl) (by kernel_rfl) (fun c a w h => put42 a _ _ c w (by decide) h) (Or.inl ⟨by rfl, ?_⟩) (by assumption) ?_
            rotate_left
            · (intro w hSw; (try dsimp only at hSw); go_simp <;> with_reducible rfl)
            try simp only [Act.put, List.getElem_toArray, List.getElem_cons_zero, List.getElem_cons_succ, List.setIfInBounds_toArray, List.set_cons_zero, List.set_cons_succ]
            refine wpAnyH_take (i := 2) (oi := _) (v := ?_) rfl (by kernel_rfl) (by kernel_rfl) (by kernel_rfl) (fun c a w h => put42 a _ _ c w (by decide) h) (Or.inl ⟨by rfl, ?_⟩) (by assumption) ?_
            rotate_left
            · (intro w hSw; (try dsimp only at hSw); go_simp <;> with_reducible rfl)
            try simp only [Act.put, List.getElem_toArray, List.getElem_cons_zero, List.getElem_cons_succ, List.setIfInBounds_toArray, List.set_cons_zero, List.set_cons_succ]
            refine wpAnyH_take (i := 3) (oi := _) (v := ?_) rfl (by kernel_rfl) (by kernel_rfl) (by kernel_rfl) (fun c a w h => put42 a _ _ c w (by decide) h) (Or.inl ⟨by rfl, ?_⟩) (by assumption) ?_
            rotate_left
            · (intro w hSw; (try dsimp only at hSw); go_simp <;> with_reducible rfl)
            try simp only [Act.put, List.getElem_toArray, List.getElem_cons_zero, List.getElem_cons_succ, List.setIfInBounds_toArray, List.set_cons_zero, List.set_cons_succ]
            refine wpAnyH_ready (rs := [4]) (by kernel_rfl) (by simp) ?_
            refine AllReadyH.cons (o := _) rfl (fun K hK => ?_) AllReadyH.nil
            clear hHeld
            go_simp
            refine (side_any true _).mono ?_
            rintro e w' ⟨rfl, rfl⟩
            try go_wp2_with fail
            refine hK.out _ _ trivial (fun hHeld => ?_)
            clear hK K
            try simp only [Act.put, List.getElem_toArray, List.getElem_cons_zero, List.getElem_cons_succ, List.setIfInBounds_toArray, List.set_cons_zero, List.set_cons_succ]
            refine wpAnyH_take (i := 5) (oi := _) (v := ?_) rfl (by kernel_rfl) (by kernel_rfl) (by kernel_rfl) (fun c a w h => put42 a _ _ c w (by decide) h) (Or.inl ⟨by rfl, ?_⟩) (by assumption) ?_
            rotate_left
            · (intro w hSw; (try dsimp only at hSw); go_simp <;> with_reducible rfl)
            try simp only [Act.put, List.getElem_toArray, List.getElem_cons_zero, List.getElem_cons_succ, List.setIfInBounds_toArray, List.set_cons_zero, List.set_cons_succ]
            refine wpAnyH_take (i := 6) (oi := _) (v := ?_) rfl (by kernel_rfl) (by kernel_rfl) (by kernel_rfl) (fun c a w h => put42 a _ _ c w (by decide) h) (Or.inl ⟨by rfl, ?_⟩) (by assumption) ?_
            rotate_left
            · (intro w hSw; (try dsimp only at hSw); go_simp <;> with_reducible rfl)
            try simp only [Act.put, List.getElem_toArray, List.getElem_cons_zero, List.getElem_cons_succ, List.setIfInBounds_toArray, List.set_cons_zero, List.set_cons_succ]
            refine wpAnyH_ready (rs := [7]) (by kernel_rfl) (by simp) ?_
            refine AllReadyH.cons (o := _) rfl (fun K hK => ?_) AllReadyH.nil
            clear hHeld
            go_simp
            try go_wp2_with fail
            refine hK.out _ _ trivial (fun hHeld => ?_)
            clear hK K hHeld
            refine wpAnyH_done (by kernel_rfl) ?_ _
            go_wp2_with fail
            refine wp_region_held_drew (S := fun w2 => w2.cell? ⟨X, fs.length, none⟩ = some (.bool x)) (by kernel_rfl) ?_ (fun hHeld => ?_)
            · (simp [cX6])
            refine wpAnyH_take (i := 0) (oi := _) (v := ?_) rfl (by kernel_rfl) (by kernel_rfl) (by kernel_rfl) (fun c a w h => put42 a _ _ c w (by decide) h) (Or.inl ⟨by rfl, ?_⟩) (by assumption) ?_
            rotate_left
            · (intro w hSw; (try dsimp only at hSw); go_simp <;> with_reducible rfl)
            try simp only [Act.put, List.getElem_toArray, List.getElem_cons_zero, List.setIfInBounds_toArray, List.set_cons_zero, List.set_cons_succ]
            refine wpAnyH_take (i := 1) (oi := _) (v := ?_) rfl (by kernel_rfl) (by kernel_rfl) (by kernel_rfl) (fun c a w h => put42 a _ _ c w (by decide) h) (Or.inl ⟨by rfl, ?_⟩) (by assumption) ?_
            rotate_left
            · (intro w hSw; (try dsimp only at hSw); go_simp <;> with_reducible rfl)
            try simp only [Act.put, List.getElem_toArray, List.getElem_cons_zero, List.getElem_cons_succ, List.setIfInBounds_toArray, List.set_cons_zero, List.set_cons_succ]
            refine wpAnyH_take (i := 2) (oi := _) (v := ?_) rfl (by kernel_rfl) (by kernel_rfl) (by kernel_rfl) (fun c a w h => put42 a _ _ c w (by decide) h) (Or.inl ⟨by rfl, ?_⟩) (by assumption) ?_
            rotate_left
            · (intro w hSw; (try dsimp only at hSw); go_simp <;> with_reducible rfl)
            try simp only [Act.put, List.getElem_toArray, List.getElem_cons_zero, List.getElem_cons_succ, List.setIfInBounds_toArray, List.set_cons_zero, List.set_cons_succ]
            refine wpAnyH_take (i := 3) (oi := _) (v := ?_) rfl (by kernel_rfl) (by kernel_rfl) (by kernel_rfl) (fun c a w h => put42 a _ _ c w (by decide) h) (Or.inl ⟨by rfl, ?_⟩) (by assumption) ?_
            rotate_left
            · (intro w hSw; (try dsimp only at hSw); go_simp <;> with_reducible rfl)
            try simp only [Act.put, List.getElem_toArray, List.getElem_cons_zero, List.getElem_cons_succ, List.setIfInBounds_toArray, List.set_cons_zero, List.set_cons_succ]
            refine wpAnyH_take (i := 4) (oi := _) (v := ?_) rfl (by kernel_rfl) (by kernel_rfl) (by kernel_rfl) (fun c a w h => put42 a _ _ c w (by decide) h) (Or.inl ⟨by rfl, ?_⟩) (by assumption) ?_
            rotate_left
            · (intro w hSw; (try dsimp only at hSw); go_simp <;> with_reducible rfl)
            try simp only [Act.put, List.getElem_toArray, List.getElem_cons_zero, List.getElem_cons_succ, List.setIfInBounds_toArray, List.set_cons_zero, List.set_cons_succ]
            refine wpAnyH_take (i := 5) (oi := _) (v := ?_) rfl (by kernel_rfl) (by kernel_rfl) (by kernel_rfl) (fun c a w h => put42 a _ _ c w (by decide) h) (Or.inl ⟨by rfl, ?_⟩) (by assumption) ?_
            rotate_left
            · (intro w hSw; (try dsimp only at hSw); go_simp <;> with_reducible rfl)
            try simp only [Act.put, List.getElem_toArray, List.getElem_cons_zero, List.getElem_cons_succ, List.setIfInBounds_toArray, List.set_cons_zero, List.set_cons_succ]
            refine wpAnyH_ready (rs := [6]) (by kernel_rfl) (by simp) ?_
            refine AllReadyH.cons (o := _) rfl (fun K hK => ?_) AllReadyH.nil
            clear hHeld
            go_simp
            refine (side_any x _).mono ?_
            rintro e w' ⟨rfl, rfl⟩
            try go_wp2_with fail
            refine hK.out _ _ (by simpa using cX6) (fun hHeld => ?_)
            clear hK K
            try simp only [Act.put, List.getElem_toArray, List.getElem_cons_zero, List.getElem_cons_succ, List.setIfInBounds_toArray, List.set_cons_zero, List.set_cons_succ]
            refine wpAnyH_take (i := 7) (oi := _) (v := ?_) rfl (by kernel_rfl) (by kernel_rfl) (by kernel_rfl) (fun c a w h => put42 a _ _ c w (by decide) h) (Or.inl ⟨by rfl, ?_⟩) (by assumption) ?_
            rotate_left
            · (intro w hSw; (try dsimp only at hSw); go_simp <;> with_reducible rfl)
            try simp only [Act.put, List.getElem_toArray, List.getElem_cons_zero, List.getElem_cons_succ, List.setIfInBounds_toArray, List.set_cons_zero, List.set_cons_succ]
            cases y
            · refine wpAnyH_ready (rs := [8]) (by kernel_rfl) (by simp) ?_
              refine AllReadyH.cons (o := _) rfl (fun K hK => ?_) AllReadyH.nil
              clear hHeld
              go_simp
              refine (need_no _).mono ?_
              rintro e w' ⟨rfl, rfl⟩
              have HPN : Hid (Li.parseF .b t = none) := Lib.hid (by rw [HPP.out, if_neg (of_decide_eq_false HY.out)])
              exact door_line _ (by rfl) HB6.out (HK6.out.drewN 2) (HON.out.bad hlt HKD.out HPN.out)
            · refine wpAnyH_ready (rs := [8]) (by kernel_rfl) (by simp) ?_
              refine AllReadyH.cons (o := _) rfl (fun K hK => ?_) AllReadyH.nil
              clear hHeld
              go_simp
              refine (need_yes _).mono ?_
              rintro e w' ⟨rfl, rfl⟩
              try go_wp2_with fail
              refine hK.out _ _ (by simpa using cX6) (fun hHeld => ?_)
              clear hK K hHeld
              refine wpAnyH_done (by kernel_rfl) ?_ _
              clear hbx hby
              have HPN : Hid (Li.parseF .b t = some (.b x, ([] : List UInt8))) := Lib.hid (by rw [HPP.out, if_pos (of_decide_eq_true HY.out)])
              have HREL : Hid (LnRel w X T cs kind ks s (.string ⟨([] : List UInt8).toArray⟩) (.int .i64 (fs.length + 1)) ((wr.setCell ⟨X, fs.length, none⟩ (.bool x)).drewN 2)) := Lib.hid ⟨fs ++ [.b x], ([] : List UInt8), HON.out.step hlt HKD.out HPN.out, rfl, by rw [List.length_append]; go_num, HK6.out.drewN 2, by rw [← lcells_set cs fs _ (by rw [HCS.out]; exact hlt)]; exact HX6.out, HB6.out⟩
              go_wp2_with fail
              first | exact ⟨HREL.out, by simp [intOf]; omega⟩ | (go_roundw; all_goals first | exact HREL.out | (simp [intOf]; omega) | ((repeat apply Exists.intro); exact ⟨HREL.out, rfl⟩))
          · obtain rfl := hnm
            have HU := Lib.hid hu
            have HFR := Lib.hid hf
            clear hu hf
            have hneg : ¬ (m : Int) < 0 := by omega
            have hm0 : (0 : Int) ≤ (m : Int) := by omega
            have hm1 : (m : Int) ≤ (t.length : Int) := by omega
            have ht0 : (⟨t.toArray⟩ : ByteArray).extract 0 m = ⟨(t.take m).toArray⟩ := ext_take t m
            have ht1 : (⟨t.toArray⟩ : ByteArray).extract m t.length = ⟨(t.drop m).toArray⟩ := ext_drop t m
            obtain ⟨x, hx⟩ : ∃ x, decide ((t.take m) = Li.side true) = x := ⟨_, rfl⟩
            have hbx : ((t.take m) == Li.side true) = x := by rw [← hx]; exact beq_dec _ _
            have HX := Lib.hid hx
            clear hx
            obtain ⟨y, hy⟩ : ∃ y, decide ((t.take m) = Li.side x) = y := ⟨_, rfl⟩
            have hby : ((t.take m) == Li.side x) = y := by rw [← hy]; exact beq_dec _ _
            have HY := Lib.hid hy
            clear hy
            have HPP : Hid (Li.parseF .b t = if (t.take m) = Li.side x then some (.b x, (t.drop m)) else none) := Lib.hid (by have := Li.parseF_b t x (by rw [← HU.out]; exact HX.out); rw [this]; rw [← HU.out]; rw [← HFR.out])
            obtain ⟨v0, hv0⟩ := lcells_some cs fs (by rw [HCS.out]; exact hlt)
            have cX : wr.cell? ⟨X, fs.length, none⟩ = some v0 := by rw [Lib.cell_of_heap HX1.out]; exact hv0
            have fX : wr.frozen? ⟨X, fs.length, none⟩ = false := Lib.frozen_of_heap HX1.out _
            clear hv0
            have HX6 := Lib.hid (heap_set (o := fs.length) (v := .bool x) HX1.out)
            have HK6 := Lib.hid (HK1.out.set (o := fs.length) (.bool x))
            have HB6 : Hid ((wr.setCell ⟨X, fs.length, none⟩ (.bool x)).heap[w.heap.size]? = some (.cells #[.bool false] 4 (0, 0))) := Lib.hid (by rw [Below.heap_setCell _ _ _ _ (show w.heap.size ≠ X by omega)]; exact HB1.out)
            have cX6 : (wr.setCell ⟨X, fs.length, none⟩ (.bool x)).cell? ⟨X, fs.length, none⟩ = some (.bool x) := World.cell?_setCell_same _ _ _ cX
            go_wp2_with fail
            refine wp_region_held_drew (S := fun _ => True) (by kernel_rfl) ?_ (fun hHeld => ?_)
            · trivial
            refine wpAnyH_take (i := 0) (oi := _) (v := ?_) rfl (by kernel_rfl) (by kernel_rfl) (by kernel_rfl) (fun c a w h => put42 a _ _ c w (by decide) h) (Or.inl ⟨by rfl, ?_⟩) (by assumption) ?_
            rotate_left
            · (intro w hSw; (try dsimp only at hSw); go_simp <;> with_reducible rfl)
            try simp only [Act.put, List.getElem_toArray, List.getElem_cons_zero, List.setIfInBounds_toArray, List.set_cons_zero, List.set_cons_succ]
            refine wpAnyH_take (i := 1) (oi := _) (v := ?_) rfl (by kernel_rfl) (by kernel_rfl) (by kernel_rfl) (fun c a w h => put42 a _ _ c w (by decide) h) (Or.inl ⟨by rfl, ?_⟩) (by assumption) ?_
            rotate_left
            · (intro w hSw; (try dsimp only at hSw); go_simp <;> with_reducible rfl)
            try simp only [Act.put, List.getElem_toArray, List.getElem_cons_zero, List.getElem_cons_succ, List.setIfInBounds_toArray, List.set_cons_zero, List.set_cons_succ]
            refine wpAnyH_take (i := 2) (oi := _) (v := ?_) rfl (by kernel_rfl) (by kernel_rfl) (by kernel_rfl) (fun c a w h => put42 a _ _ c w (by decide) h) (Or.inl ⟨by rfl, ?_⟩) (by assumption) ?_
            rotate_left
            · (intro w hSw; (try dsimp only at hSw); go_simp <;> with_reducible rfl)
            try simp only [Act.put, List.getElem_toArray, List.getElem_cons_zero, List.getElem_cons_succ, List.setIfInBounds_toArray, List.set_cons_zero, List.set_cons_succ]
            refine wpAnyH_take (i := 3) (oi := _) (v := ?_) rfl (by kernel_rfl) (by kernel_rfl) (by kernel_rfl) (fun c a w h => put42 a _ _ c w (by decide) h) (Or.inl ⟨by rfl, ?_⟩) (by assumption) ?_
            rotate_left
            · (intro w hSw; (try dsimp only at hSw); go_simp <;> with_reducible rfl)
            try simp only [Act.put, List.getElem_toArray, List.getElem_cons_zero, List.getElem_cons_succ, List.setIfInBounds_toArray, List.set_cons_zero, List.set_cons_succ]
            refine wpAnyH_ready (rs := [4]) (by kernel_rfl) (by simp) ?_
            refine AllReadyH.cons (o := _) rfl (fun K hK => ?_) AllReadyH.nil
            clear hHeld
            go_simp
            refine (side_any true _).mono ?_
            rintro e w' ⟨rfl, rfl⟩
            try go_wp2_with fail
            refine hK.out _ _ trivial (fun hHeld => ?_)
            clear hK K
            try simp only [Act.put, List.getElem_toArray, List.getElem_cons_zero, List.getElem_cons_succ, List.setIfInBounds_toArray, List.set_cons_zero, List.set_cons_succ]
            refine wpAnyH_take (i := 5) (oi := _) (v := ?_) rfl (by kernel_rfl) (by kernel_rfl) (by kernel_rfl) (fun c a w h => put42 a _ _ c w (by decide) h) (Or.inl ⟨by rfl, ?_⟩) (by assumption) ?_
            rotate_left
            · (intro w hSw; (try dsimp only at hSw); go_simp <;> with_reducible rfl)
            try simp only [Act.put, List.getElem_toArray, List.getElem_cons_zero, List.getElem_cons_succ, List.setIfInBounds_toArray, List.set_cons_zero, List.set_cons_succ]
            refine wpAnyH_take (i := 6) (oi := _) (v := ?_) rfl (by kernel_rfl) (by kernel_rfl) (by kernel_rfl) (fun c a w h => put42 a _ _ c w (by decide) h) (Or.inl ⟨by rfl, ?_⟩) (by assumption) ?_
            rotate_left
            · (intro w hSw; (try dsimp only at hSw); go_simp <;> with_reducible rfl)
            try simp only [Act.put, List.getElem_toArray, List.getElem_cons_zero, List.getElem_cons_succ, List.setIfInBounds_toArray, List.set_cons_zero, List.set_cons_succ]
            refine wpAnyH_ready (rs := [7]) (by kernel_rfl) (by simp) ?_
            refine AllReadyH.cons (o := _) rfl (fun K hK => ?_) AllReadyH.nil
            clear hHeld
            go_simp
            try go_wp2_with fail
            refine hK.out _ _ trivial (fun hHeld => ?_)
            clear hK K hHeld
            refine wpAnyH_done (by kernel_rfl) ?_ _
            go_wp2_with fail
            refine wp_region_held_drew (S := fun w2 => w2.cell? ⟨X, fs.length, none⟩ = some (.bool x)) (by kernel_rfl) ?_ (fun hHeld => ?_)
            · (simp [cX6])
            refine wpAnyH_take (i := 0) (oi := _) (v := ?_) rfl (by kernel_rfl) (by kernel_rfl) (by kernel_rfl) (fun c a w h => put42 a _ _ c w (by decide) h) (Or.inl ⟨by rfl, ?_⟩) (by assumption) ?_
            rotate_left
            · (intro w hSw; (try dsimp only at hSw); go_simp <;> with_reducible rfl)
            try simp only [Act.put, List.getElem_toArray, List.getElem_cons_zero, List.setIfInBounds_toArray, List.set_cons_zero, List.set_cons_succ]
            refine wpAnyH_take (i := 1) (oi := _) (v := ?_) rfl (by kernel_rfl) (by kernel_rfl) (by kernel_rfl) (fun c a w h => put42 a _ _ c w (by decide) h) (Or.inl ⟨by rfl, ?_⟩) (by assumption) ?_
            rotate_left
            · (intro w hSw; (try dsimp only at hSw); go_simp <;> with_reducible rfl)
            try simp only [Act.put, List.getElem_toArray, List.getElem_cons_zero, List.getElem_cons_succ, List.setIfInBounds_toArray, List.set_cons_zero, List.set_cons_succ]
            refine wpAnyH_take (i := 2) (oi := _) (v := ?_) rfl (by kernel_rfl) (by kernel_rfl) (by kernel_rfl) (fun c a w h => put42 a _ _ c w (by decide) h) (Or.inl ⟨by rfl, ?_⟩) (by assumption) ?_
            rotate_left
            · (intro w hSw; (try dsimp only at hSw); go_simp <;> with_reducible rfl)
            try simp only [Act.put, List.getElem_toArray, List.getElem_cons_zero, List.getElem_cons_succ, List.setIfInBounds_toArray, List.set_cons_zero, List.set_cons_succ]
            refine wpAnyH_take (i := 3) (oi := _) (v := ?_) rfl (by kernel_rfl) (by kernel_rfl) (by kernel_rfl) (fun c a w h => put42 a _ _ c w (by decide) h) (Or.inl ⟨by rfl, ?_⟩) (by assumption) ?_
            rotate_left
            · (intro w hSw; (try dsimp only at hSw); go_simp <;> with_reducible rfl)
            try simp only [Act.put, List.getElem_toArray, List.getElem_cons_zero, List.getElem_cons_succ, List.setIfInBounds_toArray, List.set_cons_zero, List.set_cons_succ]
            refine wpAnyH_take (i := 4) (oi := _) (v := ?_) rfl (by kernel_rfl) (by kernel_rfl) (by kernel_rfl) (fun c a w h => put42 a _ _ c w (by decide) h) (Or.inl ⟨by rfl, ?_⟩) (by assumption) ?_
            rotate_left
            · (intro w hSw; (try dsimp only at hSw); go_simp <;> with_reducible rfl)
            try simp only [Act.put, List.getElem_toArray, List.getElem_cons_zero, List.getElem_cons_succ, List.setIfInBounds_toArray, List.set_cons_zero, List.set_cons_succ]
            refine wpAnyH_take (i := 5) (oi := _) (v := ?_) rfl (by kernel_rfl) (by kernel_rfl) (by kernel_rfl) (fun c a w h => put42 a _ _ c w (by decide) h) (Or.inl ⟨by rfl, ?_⟩) (by assumption) ?_
            rotate_left
            · (intro w hSw; (try dsimp only at hSw); go_simp <;> with_reducible rfl)
            try simp only [Act.put, List.getElem_toArray, List.getElem_cons_zero, List.getElem_cons_succ, List.setIfInBounds_toArray, List.set_cons_zero, List.set_cons_succ]
            refine wpAnyH_ready (rs := [6]) (by kernel_rfl) (by simp) ?_
            refine AllReadyH.cons (o := _) rfl (fun K hK => ?_) AllReadyH.nil
            clear hHeld
            go_simp
            refine (side_any x _).mono ?_
            rintro e w' ⟨rfl, rfl⟩
            try go_wp2_with fail
            refine hK.out _ _ (by simpa using cX6) (fun hHeld => ?_)
            clear hK K
            try simp only [Act.put, List.getElem_toArray, List.getElem_cons_zero, List.getElem_cons_succ, List.setIfInBounds_toArray, List.set_cons_zero, List.set_cons_succ]
            refine wpAnyH_take (i := 7) (oi := _) (v := ?_) rfl (by kernel_rfl) (by kernel_rfl) (by kernel_rfl) (fun c a w h => put42 a _ _ c w (by decide) h) (Or.inl ⟨by rfl, ?_⟩) (by assumption) ?_
            rotate_left
            · (intro w hSw; (try dsimp only at hSw); go_simp <;> with_reducible rfl)
            try simp only [Act.put, List.getElem_toArray, List.getElem_cons_zero, List.getElem_cons_succ, List.setIfInBounds_toArray, List.set_cons_zero, List.set_cons_succ]
            cases y
            · refine wpAnyH_ready (rs := [8]) (by kernel_rfl) (by simp) ?_
              refine AllReadyH.cons (o := _) rfl (fun K hK => ?_) AllReadyH.nil
              clear hHeld
              go_simp
              refine (need_no _).mono ?_
              rintro e w' ⟨rfl, rfl⟩
              have HPN : Hid (Li.parseF .b t = none) := Lib.hid (by rw [HPP.out, if_neg (of_decide_eq_false HY.out)])
              exact door_line _ (by rfl) HB6.out (HK6.out.drewN 2) (HON.out.bad hlt HKD.out HPN.out)
            · refine wpAnyH_ready (rs := [8]) (by kernel_rfl) (by simp) ?_
              refine AllReadyH.cons (o := _) rfl (fun K hK => ?_) AllReadyH.nil
              clear hHeld
              go_simp
              refine (need_yes _).mono ?_
              rintro e w' ⟨rfl, rfl⟩
              try go_wp2_with fail
              refine hK.out _ _ (by simpa using cX6) (fun hHeld => ?_)
              clear hK K hHeld
              refine wpAnyH_done (by kernel_rfl) ?_ _
              clear hbx hby
              have HPN : Hid (Li.parseF .b t = some (.b x, (t.drop m))) := Lib.hid (by rw [HPP.out, if_pos (of_decide_eq_true HY.out)])
              have HREL : Hid (LnRel w X T cs kind ks s (.string ⟨(t.drop m).toArray⟩) (.int .i64 (fs.length + 1)) ((wr.setCell ⟨X, fs.length, none⟩ (.bool x)).drewN 2)) := Lib.hid ⟨fs ++ [.b x], (t.drop m), HON.out.step hlt HKD.out HPN.out, rfl, by rw [List.length_append]; go_num, HK6.out.drewN 2, by rw [← lcells_set cs fs _ (by rw [HCS.out]; exact hlt)]; exact HX6.out, HB6.out⟩
              go_wp2_with fail
              first | exact ⟨HREL.out, by simp [intOf]; omega⟩ | (go_roundw; all_goals first | exact HREL.out | (simp [intOf]; omega) | ((repeat apply Exists.intro); exact ⟨HREL.out, rfl⟩))
        · have HSP := Lib.hid hsp
          clear hsp
          go_wp2_with fail
          refine (cutPrefix_no r [32] _ HSP.out).mono ?_
          rintro e w' ⟨rfl, rfl⟩
          go_wp2_with fail
          refine (need_no _).mono ?_
          rintro e w' ⟨rfl, rfl⟩
          exact door_line _ (by rfl) HB1.out HK1.out (HON.out.no hlt HSP.out)
    · have hji : ¬ (fs.length : Int) < (ks.length : Int) := by omega
      have HDN := Lib.hid (HON.out.done hlt)
      have cB : wr.cell? ⟨w.heap.size, 0, none⟩ = some (.bool false) := by rw [Lib.cell_of_heap HB1.out]; rfl
      have fB : wr.frozen? ⟨w.heap.size, 0, none⟩ = false := Lib.frozen_of_heap HB1.out 0
      cases r with
      | nil =>
        go_wp2_with fail
        refine (need_yes _).mono ?_
        rintro e w' ⟨rfl, rfl⟩
        go_wp2_with fail
        refine door_true (fs := fs) _ (by rfl) (heap_set HB1.out) (Kp.of_own HK1.out ((Kp.refl _ (some w.heap.size)).set _) (Nat.le_refl _)) ?_ (by rw [HDN.out]; simp)
        rw [Below.heap_setCell _ _ _ _ (show X ≠ w.heap.size by omega), ← lcells_all cs fs (by rw [HCS.out]; omega)]
        exact HX1.out
      | cons c t =>
        go_wp2_with fail
        refine (need_no _).mono ?_
        rintro e w' ⟨rfl, rfl⟩
        exact door_line _ (by rfl) HB1.out HK1.out (by rw [HDN.out]; simp)
theorem line_any (s kind : List UInt8) (ks : List Li.Kd) (fb X : Nat) (T : TypeId) (cs : List Value) (cells : Array Value) (w : World) (he : Env w) (hs : s.length < 1048576) (hk : ks.length ≤ 100) (hcs : cs.length = ks.length)
    (hx : w.heap[X]? = some (.cells cs.toArray T (0, 0))) (hx6 : 6 ≤ X) (hf : w.heap[fb]? = some (.cells cells 20 (0, 0))) (hne : fb ≠ X) (hfc : FldPtrs X ks cells) :
    Calls Tryd.prog 42 #[.string ⟨s.toArray⟩, .string ⟨kind.toArray⟩, .slice (some ⟨fb, 0, none⟩) ks.length ks.length] w (LineEnds w X T (Li.parseLine kind ks s)) := by
  by_cases hp : s.take kind.length = kind
  · exact line_prefix s kind ks fb X T cs cells w he hs hk hcs hx hx6 hf hne hfc hp
  · refine (line_noprefix s kind _ w hp).mono ?_
    rintro e w' ⟨rfl, k⟩
    have : Li.parseLine kind ks s = none := by unfold Li.parseLine; rw [if_neg hp]
    rw [this]
    exact ⟨rfl, k.weak _⟩
theorem row_ptrs (X : Nat) : FldPtrs X Li.rowK (rowCells X 0) := by
  intro j hj
  have : j = 0 ∨ j = 1 ∨ j = 2 ∨ j = 3 ∨ j = 4 ∨ j = 5 := by simp [Li.rowK] at hj; omega
  rcases this with rfl | rfl | rfl | rfl | rfl | rfl <;> rfl
theorem probe_ptrs (X : Nat) : FldPtrs X Li.probeK (probeCells X 0) := by
  intro j hj
  have : j = 0 ∨ j = 1 ∨ j = 2 ∨ j = 3 ∨ j = 4 ∨ j = 5 := by simp [Li.probeK] at hj; omega
  rcases this with rfl | rfl | rfl | rfl | rfl | rfl <;> rfl

end Go.Proofs.YtldjhjbodhhnbaaDoor
