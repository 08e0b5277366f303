/- The library's Concat of two lists: what it returns is the call's own. Condition: at most 10^8 elements in each list. -/
import Derived.Test.YtpakiabnhdoijaaGw
import Derived.Test.YtpakiabnhdoijaaCo
namespace Go.Proofs.Ytpakiabnhdoijaa
open Go.RowKit

/-- A list appended to what the call owns, in a region that draws nothing. -/
theorem wpList_app {α : Type} {f : α → List Value} {w : World} {ops : Array Oper} {rest : List Oper} {o : Oper} {a : Act} {Q : Exit → Act → World → Prop} (hgd : o.guard = none) (s xo : Operand) (base : Nat) (t e : TypeId)
    (ho : o.op = .call { callee := .builtin .append, args := #[s, xo], argTypes := #[t, t] }) (i : TypeInfo) (z : Value) (size bytes : Nat) (ht : Try.prog.underlying t = some (.slice e)) (hi : Try.prog.info? e = some i) (hz : i.zero = some z)
    (hsize : i.size = size) (hby : i.bytes = bytes) (hzs : z.cells.size = size) (hsz : 0 < size) (hm : ∀ x, (f x).length = size) (h1 : ∀ x, ∀ u ∈ f x, u.oneCell' = true)
    (v : Value) (n : Nat) (xs : List Value) (hs : a.eval s = v) (hown : w.ownsRow base e size v n xs) (x : Value) (ys : List α) (hxo : a.eval xo = x) (hx : IsList size f w x ys)
    (h63 : n + ys.length ≤ maxLen) (hbytes : (n + ys.length) * bytes ≤ 140737488355328) (hbase : base ≤ w.heap.size)
    (h : ∀ v' w', w'.ownsRow base e size v' (n + ys.length) (xs ++ ys.flatMap f) → w.grownBy w' v.ownBlock → (v'.ownBlock = v.ownBlock ∨ v'.ownBlock = some w.heap.size) → wpList Try.prog ops Q rest (a.put o.dst v') w') : wpList Try.prog ops Q (o :: rest) a w := by
  refine wpList_plain hgd fun K hK' => ?_
  exact wp_app s xo base t e ho i z size bytes ht hi hz hsize hby hzs hsz hm h1 v n xs hs hown x ys hxo hx h63 hbytes hbase (fun v' w' h1 h2 h3 => hK' _ _ (h v' w' h1 h2 h3))

def CatRel {α : Type} (e : TypeId) (m : Nat) (f : α → List Value) (W : World) (a b : List α) (v i : Value) (wr : World) : Prop :=
  ((i = .int .i64 0 ∧ wr.ownsRow W.heap.size e m v 0 []) ∨ (i = .int .i64 1 ∧ wr.ownsRow W.heap.size e m v a.length (a.flatMap f)) ∨ (i = .int .i64 2 ∧ wr.ownsRow W.heap.size e m v (a ++ b).length ((a ++ b).flatMap f))) ∧ Kp W wr none

set_option maxHeartbeats 4000000 in
set_option maxRecDepth 100000 in
theorem concatSpan_any (s : Nat) (va vb : Value) (a b : List Rc.Span) (w : World) (hs : s < w.heap.size) (h0 : w.cell? ⟨s, 0, none⟩ = some va) (h1 : w.cell? ⟨s, 1, none⟩ = some vb) (ha : IsSpans w va a) (hb : IsSpans w vb b) (hla : a.length ≤ 100000000) (hlb : b.length ≤ 100000000) :
    Calls Try.prog 62 #[.slice (some ⟨s, 0, none⟩) 2 2] w fun E w' => OwnSpans w E w' (a ++ b) := by
  obtain ⟨aoa, capa, rfl, fa⟩ := ha.form
  obtain ⟨aob, capb, rfl, fb⟩ := hb.form
  have HA := Lib.hid ha
  have HB := Lib.hid hb
  have HC : Hid (∀ W, Kp w W none → W.cell? ⟨s, 0, none⟩ = some (.slice aoa a.length capa) ∧ W.cell? ⟨s, 1, none⟩ = some (.slice aob b.length capb)) := Lib.hid fun W k => ⟨(k.below.cell (p := ⟨s, 0, none⟩) hs).trans h0, (k.below.cell (p := ⟨s, 1, none⟩) hs).trans h1⟩
  clear fa fb ha hb h0 h1
  obtain ⟨i0, hi, hz0, hz1, hz2⟩ := info_parts infoSpan
  have c0 := HC.out w (Kp.refl _ _)
  have hna : (0 : Int) ≤ (a.length : Int) := Int.natCast_nonneg _
  have hnb : (0 : Int) ≤ (b.length : Int) := Int.natCast_nonneg _
  go_enter Try.func62, Try.ntmps62
  go_wp2_with fail
  go_loopw [3, 11] (fun z i wr => ((i = .int .i64 0 ∧ z = .int .i64 0) ∨ (i = .int .i64 1 ∧ z = .int .i64 a.length) ∨ (i = .int .i64 2 ∧ z = .int .i64 (a.length + b.length))) ∧ w = wr) (fun _ i _ => 2 - (intOf i).toNat)
  case atStart => exact ⟨.inl ⟨rfl, rfl⟩, rfl⟩
  case round =>
    obtain ⟨hcase, rfl⟩ := hrel
    rcases hcase with ⟨rfl, rfl⟩ | ⟨rfl, rfl⟩ | ⟨rfl, rfl⟩
    · go_wp2_with fail
      go_roundw
      case rel => exact ⟨.inr (.inl ⟨rfl, by simp⟩), by trivial⟩
      case measure => simp [intOf]
    · go_wp2_with fail
      go_roundw
      case rel => exact ⟨.inr (.inr ⟨rfl, by simp⟩), by trivial⟩
      case measure => simp [intOf]
    · obtain ⟨n, hn⟩ : ∃ n, a.length + b.length = n := ⟨_, rfl⟩
      have hnI : ((a.length : Int) + (b.length : Int)) = (n : Int) := by omega
      rw [hnI]
      have hn0 : (0 : Int) ≤ (n : Int) := Int.natCast_nonneg _
      have HG := growSpan_own n (by omega) w
      clear hnI
      go_wp2_with fail
      refine HG.mono ?_
      rintro E w1 ⟨u, rfl, ho, k1⟩
      have HO := Lib.hid ho
      have K1 := Lib.hid k1
      clear ho k1
      go_wp2_with fail
      go_loopw [6, 27] (fun v i wr => CatRel 24 2 spanVal w a b v i wr) (fun _ i _ => 2 - (intOf i).toNat)
      case atStart => exact ⟨.inl ⟨rfl, HO.out⟩, K1.out⟩
      case round =>
        obtain ⟨hcase, hK⟩ := hrel
        have HK := Lib.hid hK
        have cq := HC.out wr HK.out
        clear hK c0
        rcases hcase with ⟨rfl, ho⟩ | ⟨rfl, ho⟩ | ⟨rfl, ho⟩
        · have HOw := Lib.hid ho
          clear ho
          go_wp2_with (at_builtin; go_must (refine wpList_app (f := spanVal) (by rfl) _ _ w.heap.size 65 24 (by rfl) i0 _ 2 16 Try.underlying65 hi hz0 hz1 hz2 rfl (by omega) (fun _ => rfl) span_one u6 0 [] (by rfl) HOw.out (.slice aoa a.length capa) a (by rfl) (HA.out.keep HK.out) (by unfold maxLen; omega) (by omega) HK.out.size ?_))
          intro v4 w4 ho4 hg4 _
          have HR : Hid (CatRel 24 2 spanVal w a b v4 (.int .i64 (0 + 1)) w4) := Lib.hid ⟨.inr (.inl ⟨rfl, by simpa using ho4⟩), Kp.row HK.out hg4 (fun j hj => (HOw.out.lt j hj).1)⟩
          clear ho4 hg4
          go_wp2_with fail
          go_roundw
          case rel => exact HR.out
          case measure => simp [intOf]
        · have HOw := Lib.hid ho
          clear ho
          go_wp2_with (at_builtin; go_must (refine wpList_app (f := spanVal) (by rfl) _ _ w.heap.size 65 24 (by rfl) i0 _ 2 16 Try.underlying65 hi hz0 hz1 hz2 rfl (by omega) (fun _ => rfl) span_one u6 a.length (a.flatMap spanVal) (by rfl) HOw.out (.slice aob b.length capb) b (by rfl) (HB.out.keep HK.out) (by unfold maxLen; omega) (by omega) HK.out.size ?_))
          intro v4 w4 ho4 hg4 _
          have HR : Hid (CatRel 24 2 spanVal w a b v4 (.int .i64 (1 + 1)) w4) := Lib.hid ⟨.inr (.inr ⟨rfl, by rw [List.length_append, List.flatMap_append, hn]; exact ho4⟩), Kp.row HK.out hg4 (fun j hj => (HOw.out.lt j hj).1)⟩
          clear ho4 hg4
          go_wp2_with fail
          go_roundw
          case rel => exact HR.out
          case measure => simp [intOf]
        · have HE : Hid (OwnSpans w (Ending.returned u6) wr (a ++ b)) := Lib.hid ⟨_, rfl, ho, HK.out⟩
          clear ho
          go_wp2_with fail
          go_ret
          exact HE.out

set_option maxHeartbeats 4000000 in
set_option maxRecDepth 100000 in
theorem concatRect_any (s : Nat) (va vb : Value) (a b : List Rc.Rect) (w : World) (hs : s < w.heap.size) (h0 : w.cell? ⟨s, 0, none⟩ = some va) (h1 : w.cell? ⟨s, 1, none⟩ = some vb) (ha : IsRects w va a) (hb : IsRects w vb b) (hla : a.length ≤ 100000000) (hlb : b.length ≤ 100000000) :
    Calls Try.prog 52 #[.slice (some ⟨s, 0, none⟩) 2 2] w fun E w' => OwnRects w E w' (a ++ b) := by
  obtain ⟨aoa, capa, rfl, fa⟩ := ha.form
  obtain ⟨aob, capb, rfl, fb⟩ := hb.form
  have HA := Lib.hid ha
  have HB := Lib.hid hb
  have HC : Hid (∀ W, Kp w W none → W.cell? ⟨s, 0, none⟩ = some (.slice aoa a.length capa) ∧ W.cell? ⟨s, 1, none⟩ = some (.slice aob b.length capb)) := Lib.hid fun W k => ⟨(k.below.cell (p := ⟨s, 0, none⟩) hs).trans h0, (k.below.cell (p := ⟨s, 1, none⟩) hs).trans h1⟩
  clear fa fb ha hb h0 h1
  obtain ⟨i0, hi, hz0, hz1, hz2⟩ := info_parts infoRect
  have c0 := HC.out w (Kp.refl _ _)
  have hna : (0 : Int) ≤ (a.length : Int) := Int.natCast_nonneg _
  have hnb : (0 : Int) ≤ (b.length : Int) := Int.natCast_nonneg _
  go_enter Try.func52, Try.ntmps52
  go_wp2_with fail
  go_loopw [3, 11] (fun z i wr => ((i = .int .i64 0 ∧ z = .int .i64 0) ∨ (i = .int .i64 1 ∧ z = .int .i64 a.length) ∨ (i = .int .i64 2 ∧ z = .int .i64 (a.length + b.length))) ∧ w = wr) (fun _ i _ => 2 - (intOf i).toNat)
  case atStart => exact ⟨.inl ⟨rfl, rfl⟩, rfl⟩
  case round =>
    obtain ⟨hcase, rfl⟩ := hrel
    rcases hcase with ⟨rfl, rfl⟩ | ⟨rfl, rfl⟩ | ⟨rfl, rfl⟩
    · go_wp2_with fail
      go_roundw
      case rel => exact ⟨.inr (.inl ⟨rfl, by simp⟩), by trivial⟩
      case measure => simp [intOf]
    · go_wp2_with fail
      go_roundw
      case rel => exact ⟨.inr (.inr ⟨rfl, by simp⟩), by trivial⟩
      case measure => simp [intOf]
    · obtain ⟨n, hn⟩ : ∃ n, a.length + b.length = n := ⟨_, rfl⟩
      have hnI : ((a.length : Int) + (b.length : Int)) = (n : Int) := by omega
      rw [hnI]
      have hn0 : (0 : Int) ≤ (n : Int) := Int.natCast_nonneg _
      have HG := growRect_own n (by omega) w
      clear hnI
      go_wp2_with fail
      refine HG.mono ?_
      rintro E w1 ⟨u, rfl, ho, k1⟩
      have HO := Lib.hid ho
      have K1 := Lib.hid k1
      clear ho k1
      go_wp2_with fail
      go_loopw [6, 27] (fun v i wr => CatRel 44 4 recVal w a b v i wr) (fun _ i _ => 2 - (intOf i).toNat)
      case atStart => exact ⟨.inl ⟨rfl, HO.out⟩, K1.out⟩
      case round =>
        obtain ⟨hcase, hK⟩ := hrel
        have HK := Lib.hid hK
        have cq := HC.out wr HK.out
        clear hK c0
        rcases hcase with ⟨rfl, ho⟩ | ⟨rfl, ho⟩ | ⟨rfl, ho⟩
        · have HOw := Lib.hid ho
          clear ho
          go_wp2_with (at_builtin; go_must (refine wpList_app (f := recVal) (by rfl) _ _ w.heap.size 22 44 (by rfl) i0 _ 4 32 Try.underlying22 hi hz0 hz1 hz2 rfl (by omega) (fun _ => rfl) rec_one u6 0 [] (by rfl) HOw.out (.slice aoa a.length capa) a (by rfl) (HA.out.keep HK.out) (by unfold maxLen; omega) (by omega) HK.out.size ?_))
          intro v4 w4 ho4 hg4 _
          have HR : Hid (CatRel 44 4 recVal w a b v4 (.int .i64 (0 + 1)) w4) := Lib.hid ⟨.inr (.inl ⟨rfl, by simpa using ho4⟩), Kp.row HK.out hg4 (fun j hj => (HOw.out.lt j hj).1)⟩
          clear ho4 hg4
          go_wp2_with fail
          go_roundw
          case rel => exact HR.out
          case measure => simp [intOf]
        · have HOw := Lib.hid ho
          clear ho
          go_wp2_with (at_builtin; go_must (refine wpList_app (f := recVal) (by rfl) _ _ w.heap.size 22 44 (by rfl) i0 _ 4 32 Try.underlying22 hi hz0 hz1 hz2 rfl (by omega) (fun _ => rfl) rec_one u6 a.length (a.flatMap recVal) (by rfl) HOw.out (.slice aob b.length capb) b (by rfl) (HB.out.keep HK.out) (by unfold maxLen; omega) (by omega) HK.out.size ?_))
          intro v4 w4 ho4 hg4 _
          have HR : Hid (CatRel 44 4 recVal w a b v4 (.int .i64 (1 + 1)) w4) := Lib.hid ⟨.inr (.inr ⟨rfl, by rw [List.length_append, List.flatMap_append, hn]; exact ho4⟩), Kp.row HK.out hg4 (fun j hj => (HOw.out.lt j hj).1)⟩
          clear ho4 hg4
          go_wp2_with fail
          go_roundw
          case rel => exact HR.out
          case measure => simp [intOf]
        · have HE : Hid (OwnRects w (Ending.returned u6) wr (a ++ b)) := Lib.hid ⟨_, rfl, ho, HK.out⟩
          clear ho
          go_wp2_with fail
          go_ret
          exact HE.out

end Go.Proofs.Ytpakiabnhdoijaa
