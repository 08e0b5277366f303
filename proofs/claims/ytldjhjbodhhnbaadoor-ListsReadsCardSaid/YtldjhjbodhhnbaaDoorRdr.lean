/- A file of rows, as the program reads it. Condition: the text has at most 262144 bytes. -/
import Derived.Test.YtldjhjbodhhnbaaDoorLm
import Derived.Test.YtldjhjbodhhnbaaDoorRs
namespace Go.Proofs.YtldjhjbodhhnbaaDoor
open Go.RowKit

/-- What an own row of elements holds. -/
def cellsOf (l : List (List Li.Fld)) : List Value := l.flatMap fun x => x.map fldVal
theorem cellsOf_snoc (l : List (List Li.Fld)) (x : List Li.Fld) : cellsOf (l ++ [x]) = cellsOf l ++ x.map fldVal := by unfold cellsOf; rw [List.flatMap_append]; simp
def strLen : Value → Nat | .string b => b.size | _ => 0
def ReadEnds (w : World) (e : TypeId) (o : Li.Rd) (E : Ending) (w' : World) : Prop :=
  (match o with
  | .ok l => ∃ v, E = .returned (.tuple #[v, .int .i64 0, .int .i64 0]) ∧ w'.ownsRow w.heap.size e 6 v l.length (cellsOf l)
  | .bad n => E = .returned (.tuple #[.slice none 0 0, .int .i64 n, .int .i64 4])) ∧ Kp w w' none
def RdRel (w : World) (e : TypeId) (kind : List UInt8) (ks : List Li.Kd) (s0 : List UInt8) (v0 v9 v10 : Value) (wr : World) : Prop :=
  ∃ (r : List UInt8) (out : List (List Li.Fld)) (n : Nat), v0 = .string ⟨r.toArray⟩ ∧ n + r.length ≤ s0.length + 1 ∧ v10 = .int .i64 n ∧ out.length ≤ n ∧ wr.ownsRow w.heap.size e 6 v9 out.length (cellsOf out) ∧ Kp w wr none ∧ Li.readFile kind ks s0 = Li.readOn kind ks r out n
theorem on_end2 {kind : List UInt8} {ks : List Li.Kd} {out : List (List Li.Fld)} {r this rest : List UInt8} (n : Nat) (h : Wr.cut1 10 r = some (this, rest)) (e : this = Li.endOf out.length) : Li.readOn kind ks r out n = if rest = [] then .ok out else .bad (n + 1) := by
  subst e; exact Li.on_end out n h
theorem end_cat (n : Nat) : (⟨#[101, 110, 100, 32]⟩ : ByteArray) ++ ⟨(Lib.itoa n).toArray⟩ = ⟨(Li.endOf n).toArray⟩ := by
  rw [show (⟨#[101, 110, 100, 32]⟩ : ByteArray) = ⟨[101, 110, 100, 32].toArray⟩ from rfl, cat_eq]; rfl
theorem own_ne {w : World} {base : Nat} {e : TypeId} {ao : Option Addr} {n cap N : Nat} {xs : List Value} (h : w.ownsRow base e N (.slice ao n cap) n xs) : (Value.slice ao n cap).ownBlock = none ∨ (Value.slice ao n cap).ownBlock ≠ some w.heap.size := .inr fun e => by
  have := (h.lt _ e).2
  omega

theorem line_row (s kind : List UInt8) (fb X : Nat) (w : World) (he : Env w) (hs : s.length < 1048576)
    (hx : w.heap[X]? = some (.cells #[.string ⟨#[]⟩, .string ⟨#[]⟩, .int .i64 0, .int .i64 0, .int .i64 0, .bool false] 33 (0, 0))) (hx6 : 6 ≤ X) (hf : w.heap[fb]? = some (.cells (rowCells X 0) 20 (0, 0))) (hne : fb ≠ X) (o : Option (List Li.Fld)) (ho : Li.parseLine kind Li.rowK s = o) :
    Calls Tryd.prog 42 #[.string ⟨s.toArray⟩, .string ⟨kind.toArray⟩, .slice (some ⟨fb, 0, none⟩) 6 6] w (LineEnds w X 33 o) := by
  rw [← ho]
  exact line_any s kind Li.rowK fb X 33 [.string ⟨#[]⟩, .string ⟨#[]⟩, .int .i64 0, .int .i64 0, .int .i64 0, .bool false] _ w he hs (by decide) rfl hx hx6 hf hne (row_ptrs X)
set_option maxHeartbeats 8000000 in
set_option maxRecDepth 100000 in
theorem readRow_any (s kind : List UInt8) (w : World) (he : Env w) (hs : s.length ≤ 262144) :
    Calls Tryd.prog 30 #[.string ⟨s.toArray⟩, .string ⟨kind.toArray⟩, .func (.func 25) #[] #[]] w (ReadEnds w 33 (Li.readFile kind Li.rowK s)) := by
  have HE := Lib.hid he
  have hs2 : (s.length : Int) ≤ 262144 := by omega
  clear he
  go_enter Tryd.func30, Tryd.ntmps30
  go_wp2_with fail
  go_loopw [0, 9, 10] (fun v0 v9 v10 wr => RdRel w 33 kind Li.rowK s v0 v9 v10 wr) (fun v0 _ _ _ => strLen v0)
  case atStart => exact ⟨s, [], 1, rfl, by omega, rfl, Nat.zero_le _, World.ownsRow_nil _ _ _ _, Kp.refl _ _, Li.readFile_on _ _ _⟩
  case round =>
    obtain ⟨r, out, n, rfl, hn, rfl, hol, hown, hK, hR⟩ := hrel
    have HO := Lib.hid hown
    have HK := Lib.hid hK
    have HR := Lib.hid hR
    have hbz := HK.out.size
    have hrl : r.length ≤ 262145 := by omega
    have hn0 : (0 : Int) ≤ (n : Int) := by omega
    have hn1 : (n : Int) ≤ 262145 := by omega
    have ho0 : (0 : Int) ≤ (out.length : Int) := by omega
    have ho1 : (out.length : Int) ≤ 262145 := by omega
    clear hown hK hR
    obtain ⟨v9, rfl⟩ : ∃ v9, u9 = v9 := ⟨_, rfl⟩
    have hlen9 : Hid (∃ ao cap, u9 = .slice ao out.length cap) := Lib.hid (by
      rcases HO.out.2 with ⟨h, hz⟩ | ⟨g, cap, cur, h, _⟩
      · exact ⟨none, 0, by rw [hz]; exact h⟩
      · exact ⟨_, cap, h⟩)
    obtain ⟨ao, cap9, rfl⟩ := hlen9.out
    clear hlen9
    cases hc : Wr.cut1 10 r with
    | none =>
      have HC := Lib.hid hc
      clear hc
      go_wp2_with fail
      refine (cut_no r 10 _ (HE.out.kp0 HK.out) (by omega) HC.out).mono ?_
      rintro e w' ⟨rfl, n1, rfl⟩
      go_wp2_with fail
      go_ret3
      rw [HR.out, Li.on_none _ _ HC.out]
      exact ⟨rfl, (HK.out.drewN _).alloc _⟩
    | some p =>
      obtain ⟨this, rest⟩ := p
      have HC := Lib.hid hc
      have hcut : r.length = this.length + rest.length + 1 := by rw [(Wr.cut1_some hc).1]; simp; omega
      have hil : (Lib.itoa out.length).length ≤ 20 := Wr.itoa_length _ (by unfold Wr.I64; omega)
      have hcat := end_cat out.length
      have hsum : ((9223372036854775807 : Nat) < 4 + (Lib.itoa out.length).length) = False := by simp; omega
      have hsum2 : ((9223372036854775807 : Nat) < (Lib.itoa out.length).length + 4) = False := by simp; omega
      obtain ⟨bb, hbb⟩ : ∃ bb, decide (this = Li.endOf out.length) = bb := ⟨_, rfl⟩
      have hbq : (this == Li.endOf out.length) = bb := by rw [← hbb]; exact beq_dec _ _
      have HBB := Lib.hid hbb
      clear hc hbb
      go_wp2_with fail
      refine (cut_yes r this rest 10 _ (HE.out.kp0 HK.out) (by omega) HC.out).mono ?_
      rintro e w' ⟨rfl, n1, rfl⟩
      go_wp2_with fail
      refine (itoa_any out.length _ (HE.out.kp0 (HK.out.drewN _)) (by unfold Wr.I64; omega)).mono ?_
      rintro e w4 ⟨rfl, k4⟩
      have HK4 := Lib.hid ((HK.out.drewN _).trans k4)
      have HO4 : Hid (w4.ownsRow w.heap.size 33 6 (.slice ao out.length cap9) out.length (cellsOf out)) := Lib.hid (HO.out.kept ((Kp.refl _ none).drewN n1 |>.trans k4) (by cases ao <;> simp [Value.ownBlock]))
      clear k4
      cases bb
      · have hne : Hid (this ≠ Li.endOf out.length) := Lib.hid (of_decide_eq_false HBB.out)
        have HX5 : Hid ((w4.alloc (.cells #[.string ⟨#[]⟩, .string ⟨#[]⟩, .int .i64 0, .int .i64 0, .int .i64 0, .bool false] 33)).heap[w4.heap.size]? = some (.cells #[.string ⟨#[]⟩, .string ⟨#[]⟩, .int .i64 0, .int .i64 0, .int .i64 0, .bool false] 33 (0, 0))) := Lib.hid (heap_alloc_new w4 _)
        have HK5 : Hid (Kp w (w4.alloc (.cells #[.string ⟨#[]⟩, .string ⟨#[]⟩, .int .i64 0, .int .i64 0, .int .i64 0, .bool false] 33)) none) := Lib.hid (HK4.out.alloc _)
        have HO5 : Hid ((w4.alloc (.cells #[.string ⟨#[]⟩, .string ⟨#[]⟩, .int .i64 0, .int .i64 0, .int .i64 0, .bool false] 33)).ownsRow w.heap.size 33 6 (.slice ao out.length cap9) out.length (cellsOf out)) := Lib.hid (HO4.out.alloc _)
        have hz4 := HK4.out.size
        have hb6 := HE.out.big
        go_wp2_with fail
        refine (row_any w4.heap.size 0 _).mono ?_
        rintro e w6 ⟨rfl, k6, h6⟩
        have HX6 := Lib.hid ((k6.block _ (lt_of_block HX5.out) (by simp)).trans HX5.out)
        have HF6 := Lib.hid h6
        have HK6 := Lib.hid (HK5.out.trans k6)
        have HO6 : Hid (w6.ownsRow w.heap.size 33 6 (.slice ao out.length cap9) out.length (cellsOf out)) := Lib.hid (HO5.out.kept k6 (by cases ao <;> simp [Value.ownBlock]))
        clear k6 h6
        have hzz : (w4.alloc (.cells #[.string ⟨#[]⟩, .string ⟨#[]⟩, .int .i64 0, .int .i64 0, .int .i64 0, .bool false] 33)).heap.size = w4.heap.size + 1 := by simp
        rw [hzz] at HF6
        cases hp : Li.parseLine kind Li.rowK this with
        | none =>
          have HP := Lib.hid hp
          clear hp
          go_wp2_with fail
          refine (line_row this kind (w4.heap.size + 1) w4.heap.size _ (HE.out.kp0 HK6.out) (by omega) HX6.out (by omega) HF6.out (by omega) none HP.out).mono ?_
          rintro e w7 ⟨rfl, k7⟩
          have HK7 := Lib.hid (Kp.of_own HK6.out k7 hz4)
          clear k7
          go_wp2_with fail
          go_ret3
          rw [HR.out, Li.on_bad out n HC.out hne.out HP.out]
          exact ⟨rfl, HK7.out⟩
        | some x =>
          have HP := Lib.hid hp
          have hg : Li.Good Li.rowK x := ⟨(Li.parseLine_iff.1 hp).2.1, (Li.parseLine_iff.1 hp).2.2⟩
          clear hp
          obtain ⟨ra, rb, rx, ry, rt, ru, rfl, _, _, _⟩ := Li.good_row hg
          clear hg
          go_wp2_with fail
          refine (line_row this kind (w4.heap.size + 1) w4.heap.size _ (HE.out.kp0 HK6.out) (by omega) HX6.out (by omega) HF6.out (by omega) (some [Li.Fld.s ra, Li.Fld.s rb, Li.Fld.i rx, Li.Fld.i ry, Li.Fld.i rt, Li.Fld.b ru]) HP.out).mono ?_
          rintro e w7 ⟨⟨rfl, h7⟩, k7⟩
          have HX7 : Hid (w7.heap[w4.heap.size]? = some (.cells #[.string ⟨ra.toArray⟩, .string ⟨rb.toArray⟩, .int .i64 rx, .int .i64 ry, .int .i64 rt, .bool ru] 33 (0, 0))) := Lib.hid h7
          have HK7 := Lib.hid (Kp.of_own HK6.out k7 hz4)
          have HO7 : Hid (w7.ownsRow w.heap.size 33 6 (.slice ao out.length cap9) out.length (cellsOf out)) := Lib.hid (HO6.out.kept k7 (own_ne HO4.out))
          clear k7 h7
          have c0 : w7.cell? ⟨w4.heap.size, 0, none⟩ = some (.string ⟨ra.toArray⟩) := by rw [Lib.cell_of_heap HX7.out]; rfl
          have c1 : w7.cell? ⟨w4.heap.size, 1, none⟩ = some (.string ⟨rb.toArray⟩) := by rw [Lib.cell_of_heap HX7.out]; rfl
          have c2 : w7.cell? ⟨w4.heap.size, 2, none⟩ = some (.int .i64 rx) := by rw [Lib.cell_of_heap HX7.out]; rfl
          have c3 : w7.cell? ⟨w4.heap.size, 3, none⟩ = some (.int .i64 ry) := by rw [Lib.cell_of_heap HX7.out]; rfl
          have c4 : w7.cell? ⟨w4.heap.size, 4, none⟩ = some (.int .i64 rt) := by rw [Lib.cell_of_heap HX7.out]; rfl
          have c5 : w7.cell? ⟨w4.heap.size, 5, none⟩ = some (.bool ru) := by rw [Lib.cell_of_heap HX7.out]; rfl
          have hcm : out.length + 1 ≤ maxLen := by unfold maxLen; omega
          have hcb : (out.length + 1) * 64 ≤ 140737488355328 := by omega
          obtain ⟨i0, hi, hz0, hz1, hz2⟩ := info_parts info33
          have hz7 := HK7.out.size
          go_wp2_with (at_builtin; go_must (refine wpList_append_lies _ (by rfl) _ _ _ (by rfl) w.heap.size 33 i0 _ 6 64 Tryd.underlying22 hi hz0 hz1 hz2 rfl (by omega) (.slice ao out.length cap9) out.length (cellsOf out) (by rfl) (HO7.out.alloc _) ⟨w7.heap.size, 0, none⟩ 1 1 [.string ⟨ra.toArray⟩, .string ⟨rb.toArray⟩, .int .i64 rx, .int .i64 ry, .int .i64 rt, .bool ru] (by rfl) (by rfl) (World.news_of_block (cs := #[.string ⟨ra.toArray⟩, .string ⟨rb.toArray⟩, .int .i64 rx, .int .i64 ry, .int .i64 rt, .bool ru]) (t := 33) (fr := (0, 0)) (heap_alloc_new w7 _)) (by simp [Value.oneCell']) (by omega) hcm hcb (by simp; omega) (w7.heap.size + 1) (by simp) ?_))
          intro gg capg w8 hown8 hgrow8 _ _
          have HREL : Hid (RdRel w 33 kind Li.rowK s (.string ⟨rest.toArray⟩) (.slice (some ⟨gg, 0, none⟩) (out.length + 1) capg) (.int .i64 (n + 1)) w8) := Lib.hid ⟨rest, out ++ [[Li.Fld.s ra, Li.Fld.s rb, Li.Fld.i rx, Li.Fld.i ry, Li.Fld.i rt, Li.Fld.b ru]], n + 1, rfl, by omega, by go_num, by simp; omega, by rw [cellsOf_snoc, List.length_append]; exact hown8, Kp.row (HK7.out.alloc _) hgrow8 (fun j hj => (HO7.out.lt j hj).1), by rw [HR.out, Li.on_line out n HC.out hne.out HP.out]⟩
          have HME : Hid (strLen (.string ⟨rest.toArray⟩) < strLen (.string ⟨r.toArray⟩)) := Lib.hid (by show rest.toArray.size < r.toArray.size; simp; omega)
          clear hown8 hgrow8 c0 c1 c2 c3 c4 c5
          go_wp2_with fail
          first | exact ⟨HREL.out, HME.out⟩ | (go_roundw; all_goals first | exact HREL.out | exact HME.out | ((repeat apply Exists.intro); exact ⟨HREL.out, rfl⟩))
      · have HND := Lib.hid (on_end2 (kind := kind) (ks := Li.rowK) (out := out) n HC.out (of_decide_eq_true HBB.out))
        cases rest with
        | nil =>
          go_wp2_with fail
          go_ret3
          rw [HR.out, HND.out, if_pos trivial]
          exact ⟨⟨_, rfl, HO4.out⟩, HK4.out⟩
        | cons c t =>
          go_wp2_with fail
          go_ret3
          rw [HR.out, HND.out, if_neg (by simp)]
          exact ⟨rfl, HK4.out⟩

end Go.Proofs.YtldjhjbodhhnbaaDoor
