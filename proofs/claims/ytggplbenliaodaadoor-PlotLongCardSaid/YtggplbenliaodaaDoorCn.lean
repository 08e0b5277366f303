/- Lists copied (slices.Clone of edges and of drawings). Condition: at most 10^6 elements. -/
import Derived.Test.YtggplbenliaodaaDoorMm
namespace Go.Proofs.YtggplbenliaodaaDoor
open Go.RowKit

set_option maxRecDepth 100000 in
theorem eq_nil23 (a : Addr) (n cap : Nat) (V : World) : Sem.run Tryd.prog (binOp BinOp.eql 24 (.slice (some a) n cap) (.slice none 0 0)) V = .ok (.bool false) V := by rfl
set_option maxRecDepth 100000 in
theorem eq_nil23' (V : World) : Sem.run Tryd.prog (binOp BinOp.eql 24 (.slice none 0 0) (.slice none 0 0)) V = .ok (.bool true) V := by rfl
set_option maxRecDepth 100000 in
theorem eq_nil27 (a : Addr) (n cap : Nat) (V : World) : Sem.run Tryd.prog (binOp BinOp.eql 23 (.slice (some a) n cap) (.slice none 0 0)) V = .ok (.bool false) V := by rfl
set_option maxRecDepth 100000 in
theorem eq_nil27' (V : World) : Sem.run Tryd.prog (binOp BinOp.eql 23 (.slice none 0 0) (.slice none 0 0)) V = .ok (.bool true) V := by rfl
set_option maxHeartbeats 2000000 in
set_option maxRecDepth 100000 in
theorem cloneE_any (es : List Pl.Ed) (n : Nat) (hn : es.length = n) (ao : Option Addr) (cap : Nat) (w : World) (hes : LiesAt 7 edC w ao cap es) (h00 : ao = none → cap = 0) (hl : n ≤ 1000000) :
    Calls Tryd.prog 32 #[.slice ao n cap] w fun E w' => ∃ v, E = .returned v ∧ w'.ownsRow w.heap.size 42 7 v n (es.flatMap edC) ∧ Kp w w' none := by
  obtain ⟨i0, hi, hz0, hz1, hz2⟩ := info_parts infoEd
  have FE := Lib.hid hes
  have HN := Lib.hid hn
  clear hes hn
  cases ao with
  | none =>
    have h0 : es = [] := by
      rcases Nat.eq_zero_or_pos es.length with h | h
      · exact List.length_eq_zero_iff.1 h
      · obtain ⟨b, off, e, _⟩ := FE.out 0 h
        cases e
    have hn0 : n = 0 := by rw [← HN.out, h0]; rfl
    subst h0
    subst hn0
    have hc0 : cap = 0 := h00 rfl
    subst hc0
    have hq := eq_nil23'
    go_enter Tryd.func32, Tryd.ntmps32
    go_wp2_with fail
    go_ret
    exact ⟨_, rfl, ⟨by rfl, .inl ⟨rfl, rfl⟩⟩, Kp.refl _ _⟩
  | some a =>
    have hq := eq_nil23 a n cap
    go_enter Tryd.func32, Tryd.ntmps32
    go_wp2_with (at_builtin; go_must (refine wpList_app (f := edC) (by rfl) _ _ w.heap.size 24 42 (by rfl) i0 _ 7 56 Tryd.underlying24 hi hz0 hz1 hz2 rfl (by omega) (fun _ => rfl) ed_one (.slice (some ⟨w.heap.size, 0, none⟩) 0 0) 0 [] (by rfl) (World.ownsRow_made w #[] 0 (Nat.le_refl _) (by unfold maxLen; omega) rfl) (.slice (some a) n cap) es (by rfl) (by have h := (FE.out.keep ((Kp.refl w none).alloc (Obj.cells #[] 42))).list; rw [HN.out] at h; exact h) (by have := HN.out; unfold maxLen; omega) (by have := HN.out; omega) (by simp) ?_))
    intro v3 w3 ho hg hbb
    have HO : Hid (w3.ownsRow w.heap.size 42 7 v3 n (es.flatMap edC)) := Lib.hid (by have h := ho; rw [HN.out] at h; simpa using h)
    have KF : Hid (Kp w w3 none) := Lib.hid (Kp.row ((Kp.refl w none).alloc (Obj.cells #[] 42)) hg (fun q hq => by
      simp [Value.ownBlock] at hq; omega))
    clear ho hg hbb
    go_wp2_with fail
    go_ret
    exact ⟨v3, rfl, HO.out, KF.out⟩
set_option maxHeartbeats 2000000 in
set_option maxRecDepth 100000 in
theorem cloneD_any (ts : List DT) (n : Nat) (hn : ts.length = n) (ao : Option Addr) (cap : Nat) (w : World) (hes : LiesAt 4 dtC w ao cap ts) (h00 : ao = none → cap = 0) (hl : n ≤ 1000000) :
    Calls Tryd.prog 20 #[.slice ao n cap] w fun E w' => ∃ v, E = .returned v ∧ w'.ownsRow w.heap.size 31 4 v n (ts.flatMap dtC) ∧ Kp w w' none := by
  obtain ⟨i0, hi, hz0, hz1, hz2⟩ := info_parts infoDr
  have FE := Lib.hid hes
  have HN := Lib.hid hn
  clear hes hn
  cases ao with
  | none =>
    have h0 : ts = [] := by
      rcases Nat.eq_zero_or_pos ts.length with h | h
      · exact List.length_eq_zero_iff.1 h
      · obtain ⟨b, off, e, _⟩ := FE.out 0 h
        cases e
    have hn0 : n = 0 := by rw [← HN.out, h0]; rfl
    subst h0
    subst hn0
    have hc0 : cap = 0 := h00 rfl
    subst hc0
    have hq := eq_nil27'
    go_enter Tryd.func20, Tryd.ntmps20
    go_wp2_with fail
    go_ret
    exact ⟨_, rfl, ⟨by rfl, .inl ⟨rfl, rfl⟩⟩, Kp.refl _ _⟩
  | some a =>
    have hq := eq_nil27 a n cap
    go_enter Tryd.func20, Tryd.ntmps20
    go_wp2_with (at_builtin; go_must (refine wpList_app (f := dtC) (by rfl) _ _ w.heap.size 23 31 (by rfl) i0 _ 4 48 Tryd.underlying23 hi hz0 hz1 hz2 rfl (by omega) (fun _ => rfl) dt_one (.slice (some ⟨w.heap.size, 0, none⟩) 0 0) 0 [] (by rfl) (World.ownsRow_made w #[] 0 (Nat.le_refl _) (by unfold maxLen; omega) rfl) (.slice (some a) n cap) ts (by rfl) (by have h := (FE.out.keep ((Kp.refl w none).alloc (Obj.cells #[] 31))).list; rw [HN.out] at h; exact h) (by have := HN.out; unfold maxLen; omega) (by have := HN.out; omega) (by simp) ?_))
    intro v3 w3 ho hg hbb
    have HO : Hid (w3.ownsRow w.heap.size 31 4 v3 n (ts.flatMap dtC)) := Lib.hid (by have h := ho; rw [HN.out] at h; simpa using h)
    have KF : Hid (Kp w w3 none) := Lib.hid (Kp.row ((Kp.refl w none).alloc (Obj.cells #[] 31)) hg (fun q hq => by
      simp [Value.ownBlock] at hq; omega))
    clear ho hg hbb
    go_wp2_with fail
    go_ret
    exact ⟨v3, rfl, HO.out, KF.out⟩

end Go.Proofs.YtggplbenliaodaaDoor
