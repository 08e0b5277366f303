/- The keys by which holes are put in order (the closures of Norm, start): what they hand back, and that they only lay blocks and draw. No condition. -/
import Derived.Test.YtljjbdbgedmadaaGreatDoorHs
import Derived.Sort.Grow
import Derived.Handy
set_option maxRecDepth 100000
namespace Go.Proofs.YtljjbdbgedmadaaGreatDoor
open Go.RowKit
def Gr (W w : World) : Prop := ∃ (q : Nat) (os : Array Obj), w = Sort.grow (W.drewN q) os
theorem Gr.refl (W : World) : Gr W W := ⟨0, #[], (Sort.grow_empty _).symm⟩
theorem Gr.trans {a b c : World} (h : Gr a b) (k : Gr b c) : Gr a c := by
 obtain ⟨q, os, rfl⟩ := h; obtain ⟨r, os2, rfl⟩ := k
 exact ⟨q + r, os ++ os2, by simp [Sort.grow, World.drewN, Nat.add_assoc, Array.append_assoc]⟩
theorem Gr.alloc {W w : World} (h : Gr W w) (o : Obj) : Gr W (w.alloc o) := h.trans ⟨0, #[o], by rw [Sort.alloc_eq_grow]; rfl⟩
theorem Gr.drew {W w : World} (h : Gr W w) : Gr W w.drew := h.trans ⟨1, #[], (Sort.grow_empty _).symm⟩
theorem Gr.drewN {W w : World} (h : Gr W w) (n : Nat) : Gr W (w.drewN n) := h.trans ⟨n, #[], (Sort.grow_empty _).symm⟩
theorem Gr.kp {W w : World} (h : Gr W w) : Kp W w none := by
 obtain ⟨q, os, rfl⟩ := h
 refine ⟨rfl, rfl, rfl, by simp [Sort.grow], fun k hk _ => ?_⟩
 show (W.heap ++ os)[k]? = W.heap[k]?
 exact Array.getElem?_append_left hk
def hV (t : HT) : Value := .agg #[I6 t.h.s.k, .slice t.ea t.h.s.es.length t.ec, I6 t.h.s.r, I6 t.h.f, I6 t.h.t, .bool t.h.pl]
theorem key61 (t : HT) (W : World) : Calls Tryz.prog 61 #[hV t] W fun E w' => E = .returned (I6 (if t.h.pl then 0 else 1)) ∧ Gr W w' := by
 unfold hV
 obtain ⟨b, hb⟩ : ∃ b, t.h.pl = b := ⟨_, rfl⟩
 rw [hb]
 cases b
 all_goals
  go_enter Tryz.func61, Tryz.ntmps61
  go_wp2
  go_ret
  exact ⟨rfl, (Gr.refl W).alloc _⟩
theorem key64 (t : HT) (W : World) : Calls Tryz.prog 64 #[hV t] W fun E w' => E = .returned (I6 t.h.f) ∧ Gr W w' := by
 unfold hV
 go_enter Tryz.func64, Tryz.ntmps64
 go_wp2
 go_ret
 exact ⟨rfl, (Gr.refl W).alloc _⟩
theorem key65 (t : HT) (W : World) : Calls Tryz.prog 65 #[hV t] W fun E w' => E = .returned (I6 t.h.t) ∧ Gr W w' := by
 unfold hV
 go_enter Tryz.func65, Tryz.ntmps65
 go_wp2
 go_ret
 exact ⟨rfl, (Gr.refl W).alloc _⟩
theorem key66 (t : HT) (W : World) : Calls Tryz.prog 66 #[hV t] W fun E w' => E = .returned (I6 t.h.s.r) ∧ Gr W w' := by
 unfold hV
 go_enter Tryz.func66, Tryz.ntmps66
 go_wp2
 go_ret
 exact ⟨rfl, (Gr.refl W).alloc _⟩
def At (W : World) (t : HT) : Prop := LiesAt 7 edC W t.ea t.ec t.h.s.es
theorem start_any (t : HT) (W : World) (h : At W t) : Calls Tryz.prog 68 #[hV t] W fun E w' => E = .returned (.agg #[I6 (Dl.startH t.h).x, I6 (Dl.startH t.h).y]) ∧ Gr W w' := by
 obtain ⟨⟨⟨sk, es, sr⟩, f, tt, pl⟩, ea, ec⟩ := t; unfold hV Dl.startH; unfold At at h
 dsimp only at h ⊢
 cases es with
 | nil =>
  clear h
  simp only [List.length_nil]
  go_enter Tryz.func68, Tryz.ntmps68
  go_wp2
  go_returns
  exact ⟨rfl, ((Gr.refl W).alloc _).alloc _⟩
 | cons e l =>
  obtain ⟨n, hn⟩ : ∃ n, (e :: l).length = n := ⟨_, rfl⟩
  have hn0 : (0 : Int) < (n : Int) := by rw [← hn, List.length_cons]; omega
  have hz : ((n : Int) == 0) = false := by simp; omega
  obtain ⟨bo, off, rfl, hcap, hbo, hc⟩ := h.ed (k := 0) (by simp)
  rw [hn] at hcap ⊢
  have k2 : Kp W ((W.alloc (.cells #[I6 sk, .slice (some ⟨bo, off, none⟩) n ec, I6 sr, I6 f, I6 tt, .bool pl] 52)).alloc (.cells #[I6 0, I6 0] 42)) none := ((Kp.refl W none).alloc _).alloc _
  obtain ⟨_, c1, c2, _⟩ := hc _ k2
  simp only [Nat.zero_mul, Nat.add_zero, List.getElem_cons_zero] at c1 c2
  clear hn hc h k2
  go_enter Tryz.func68, Tryz.ntmps68
  go_wp2
  go_returns
  exact ⟨rfl, ((Gr.refl W).alloc _).alloc _⟩
end Go.Proofs.YtljjbdbgedmadaaGreatDoor
