/- The program's write: not. Conditions: what a machine holds. -/
import Derived.Test.YtnchipahdfbliaaGreatDoorWrb
namespace Go.Proofs.YtnchipahdfbliaaGreatDoor
open Go.RowKit

theorem own_base_le {w : World} {base base' : Nat} {e : TypeId} {size : Nat} {v : Value} {n : Nat} {xs : List Value} (h : w.ownsRow base e size v n xs) (hb : base' ≤ base) : w.ownsRow base' e size v n xs := by
  refine ⟨h.1, ?_⟩
  rcases h.2 with h0 | ⟨g, cap, cur, hv, hg, hr⟩
  · exact .inl h0
  · exact .inr ⟨g, cap, cur, hv, Nat.le_trans hb hg, hr⟩
theorem own_isStrs {w : World} {base : Nat} {v : Value} {l : List (List UInt8)} (h : w.ownsRow base 9 1 v l.length (l.flatMap strVal)) : IsStrs w v l := isList_own (m := 1) (f := strVal) (fun _ => rfl) h
set_option maxHeartbeats 4000000 in
set_option maxRecDepth 100000 in
theorem write_l8 (ar : Int) (d : Ru.Cond) (a3 : Option Addr) (m3 p3 : Nat) (b off cap : Nat) (w : World) (hrg : w.rangeAt b off #[.int .i64 d.op, str d.text, .int .i64 d.n, .int .i64 d.box.x0, .int .i64 d.box.y0, .int .i64 d.box.x1, .int .i64 d.box.y1, .slice a3 m3 p3].toList) (hb : b < w.heap.size) (ws : List (List UInt8)) (hlen : ws.length ≤ 1000000000)
    (ih : ∀ u, Kp w u none → Calls Tryz.prog 42 #[.agg #[.int .i64 d.op, str d.text, .int .i64 d.n, .int .i64 d.box.x0, .int .i64 d.box.y0, .int .i64 d.box.x1, .int .i64 d.box.y1, .slice a3 m3 p3], .int .i64 8] u (OwnStrs ws u)) : Calls Tryz.prog 42 #[.agg #[.int .i64 8, .string ⟨#[]⟩, .int .i64 0, .int .i64 0, .int .i64 0, .int .i64 0, .int .i64 0, .slice (some ⟨b, off, none⟩) 1 cap], .int .i64 ar] w (OwnStrs (Ru.kwNot :: ws) w) := by
  have hk1 : Kp w (w.alloc (.cells #[.int .i64 8, .string ⟨#[]⟩, .int .i64 0, .int .i64 0, .int .i64 0, .int .i64 0, .int .i64 0, .slice (some ⟨b, off, none⟩) 1 cap] 40)) none := (Kp.refl _ _).alloc _
  have hB := heap_alloc_new w (.cells #[.int .i64 8, .string ⟨#[]⟩, .int .i64 0, .int .i64 0, .int .i64 0, .int .i64 0, .int .i64 0, .slice (some ⟨b, off, none⟩) 1 cap] 40)
  have HS : Hid (∀ V, Kp (w.alloc (.cells #[.int .i64 8, .string ⟨#[]⟩, .int .i64 0, .int .i64 0, .int .i64 0, .int .i64 0, .int .i64 0, .slice (some ⟨b, off, none⟩) 1 cap] 40)) V none → V.cell? ⟨w.heap.size, 7, none⟩ = some (.slice (some ⟨b, off, none⟩) 1 cap) ∧ V.cell? ⟨w.heap.size, 0, none⟩ = some (.int .i64 8) ∧ V.rangeAt b off #[.int .i64 d.op, str d.text, .int .i64 d.n, .int .i64 d.box.x0, .int .i64 d.box.y0, .int .i64 d.box.x1, .int .i64 d.box.y1, .slice a3 m3 p3].toList ∧ Hid (Kp (w.alloc (.cells #[.int .i64 8, .string ⟨#[]⟩, .int .i64 0, .int .i64 0, .int .i64 0, .int .i64 0, .int .i64 0, .slice (some ⟨b, off, none⟩) 1 cap] 40)) V none)) := Lib.hid fun V hV => ⟨ckr hB hV (by simp) 7 rfl, ckr hB hV (by simp) 0 rfl, fun j v hv => by
    rw [(hk1.trans hV).below.cell (p := ⟨b, off + j, none⟩) hb]; exact hrg j v hv, Lib.hid hV⟩
  have HIH : Hid (∀ u, Kp (w.alloc (.cells #[.int .i64 8, .string ⟨#[]⟩, .int .i64 0, .int .i64 0, .int .i64 0, .int .i64 0, .int .i64 0, .slice (some ⟨b, off, none⟩) 1 cap] 40)) u none → Calls Tryz.prog 42 #[.agg #[.int .i64 d.op, str d.text, .int .i64 d.n, .int .i64 d.box.x0, .int .i64 d.box.y0, .int .i64 d.box.x1, .int .i64 d.box.y1, .slice a3 m3 p3], .int .i64 8] u (OwnStrs ws u)) := Lib.hid fun u hu => ih u (hk1.trans hu)
  obtain ⟨i0, hi, hz0, hz1, hz2⟩ := info_parts info9
  have HK1 := Lib.hid hk1
  have hH1 : (w.alloc (.cells #[.int .i64 8, .string ⟨#[]⟩, .int .i64 0, .int .i64 0, .int .i64 0, .int .i64 0, .int .i64 0, .slice (some ⟨b, off, none⟩) 1 cap] 40)).heap.size = w.heap.size + 1 := by simp
  have HFIN : Hid (∀ V v, Kp (w.alloc (.cells #[.int .i64 8, .string ⟨#[]⟩, .int .i64 0, .int .i64 0, .int .i64 0, .int .i64 0, .int .i64 0, .slice (some ⟨b, off, none⟩) 1 cap] 40)) V none → V.ownsRow (w.heap.size + 1) 9 1 v (1 + ws.length) ([Ru.kwNot].flatMap strVal ++ ws.flatMap strVal) → OwnStrs (Ru.kwNot :: ws) w (.returned v) V) := Lib.hid fun V v hV ho => ⟨v, rfl, by rw [List.length_cons, Nat.add_comm ws.length 1]; exact own_base_le ho (by omega), hk1.trans hV⟩
  clear hrg ih hB hk1
  go_enter Tryz.func42, Tryz.ntmps42
  go_upto_region 24 with fail
  generalize hW : w.alloc (.cells #[.int .i64 8, .string ⟨#[]⟩, .int .i64 0, .int .i64 0, .int .i64 0, .int .i64 0, .int .i64 0, .slice (some ⟨b, off, none⟩) 1 cap] 40) = W0 at *
  clear hW
  refine wp_region_held_drew (S := fun V => V.cell? ⟨w.heap.size, 7, none⟩ = some (.slice (some ⟨b, off, none⟩) 1 cap) ∧ V.cell? ⟨w.heap.size, 0, none⟩ = some (.int .i64 8) ∧ V.rangeAt b off #[.int .i64 d.op, str d.text, .int .i64 d.n, .int .i64 d.box.x0, .int .i64 d.box.y0, .int .i64 d.box.x1, .int .i64 d.box.y1, .slice a3 m3 p3].toList ∧ Hid (Kp W0 V none)) (by kernel_rfl) (HS.out _ (Kp.refl _ none).drew) (fun hHeld => ?_)
  generalize W0.drew = W1 at *
  refine tkH 1 rfl ?_
  try simp only [Act.put, sm]
  refine tkH 2 rfl ?_
  try simp only [Act.put, sm]
  refine tkH 3 rfl ?_
  try simp only [Act.put, sm]
  refine wpAnyH_take (i := 4) rfl (by kernel_rfl) (by kernel_rfl) (by kernel_rfl) (fun _ _ _ h => h) (yieldsIf_load_mid (by rfl) _ _ rfl b off rfl #[.int .i64 d.op, str d.text, .int .i64 d.n, .int .i64 d.box.x0, .int .i64 d.box.y0, .int .i64 d.box.x1, .int .i64 d.box.y1, .slice a3 m3 p3].toList _ (fun _ h => h.2.2.1) Tryz.underlying40 rfl info40s) (by assumption) ?_
  try simp only [Act.put, sm]
  refine tkH 5 rfl ?_
  try simp only [Act.put, sm]
  refine tkH 6 rfl ?_
  try simp only [Act.put, sm]
  refine wpAnyH_ready (rs := [0, 7]) (by kernel_rfl) (by simp) ?_
  refine AllReadyH.cons (o := _) rfl (fun K hK => ?_) (AllReadyH.cons (o := _) rfl (fun K hK => ?_) AllReadyH.nil)
  · have gK := hHeld.2.2.2
    clear hHeld
    go_simp
    have kA : Kp W0 (W1.alloc (.cells #[.string ⟨#[110, 111, 116]⟩] 9)) none := gK.out.alloc _
    have hO : Hid ((W1.alloc (.cells #[.string ⟨#[110, 111, 116]⟩] 9)).ownsRow (w.heap.size + 1) 9 1 (.slice (some ⟨W1.heap.size, 0, none⟩) 1 1) 1 ([Ru.kwNot].flatMap strVal)) := Lib.hid (own_strs [Ru.kwNot] (by have := gK.out.size; omega) (by simp))
    refine hK.out _ _ (HS.out _ kA) (fun hHeld => ?_)
    clear hK K gK
    generalize W1.alloc (.cells #[.string ⟨#[110, 111, 116]⟩] 9) = W2 at *
    try simp only [Act.put, sm]
    refine wpAnyH_ready (rs := [7]) (by kernel_rfl) (by simp) ?_
    refine AllReadyH.cons (o := _) rfl (fun K hK => ?_) AllReadyH.nil
    clear hHeld
    go_simp
    refine (HIH.out _ kA).mono ?_
    rintro e W3 ⟨v3, rfl, h3, hk3⟩
    have hO3 := Lib.hid (own_kp hO.out hk3)
    have hI3 := Lib.hid (own_isStrs h3)
    have kB : Kp W0 W3 none := kA.trans hk3
    try go_wp2_with fail
    refine hK.out _ _ (HS.out _ kB) (fun hHeld => ?_)
    clear hK K
    try simp only [Act.put, sm]
    refine wpAnyH_ready (rs := [8]) (by kernel_rfl) (by simp) ?_
    refine AllReadyH.cons (o := _) rfl (fun K hK => ?_) AllReadyH.nil
    refine step_app (by rfl) _ _ (w.heap.size + 1) 68 9 (by rfl) i0 _ 1 16 Tryz.underlying68 hi hz0 hz1 hz2 rfl (by omega) (fun _ => rfl) (by simp [strVal, Value.oneCell']) _ 1 _ (by rfl) hO3.out v3 ws (by rfl) hI3.out (by unfold maxLen; omega) (by omega) (by have := kB.size; omega) ?_
    intro v5 w5 hown5 hgrow5 _
    have kC : Kp W0 w5 none := Kp.row kB hgrow5 (fun r hr => by have := (hO3.out.lt r hr).1; omega)
    refine hK.out _ _ (HS.out _ kC) (fun hHeld => ?_)
    clear hK K
    try simp only [Act.put, sm]
    refine tkH 9 rfl ?_
    try simp only [Act.put, sm]
    clear hHeld
    refine wpAnyH_done (by kernel_rfl) ?_ _
    go_wp2_with fail
    go_ret
    exact HFIN.out _ _ kC hown5
  · have gK := hHeld.2.2.2
    clear hHeld
    go_simp
    refine (HIH.out _ gK.out).mono ?_
    rintro e W2 ⟨v3, rfl, h3, hk3⟩
    have hI2 := Lib.hid (own_isStrs h3)
    have kA : Kp W0 W2 none := gK.out.trans hk3
    try go_wp2_with fail
    refine hK.out _ _ (HS.out _ kA) (fun hHeld => ?_)
    clear hK K
    try simp only [Act.put, sm]
    refine wpAnyH_ready (rs := [0]) (by kernel_rfl) (by simp) ?_
    refine AllReadyH.cons (o := _) rfl (fun K hK => ?_) AllReadyH.nil
    clear hHeld
    go_simp
    have kB : Kp W0 (W2.alloc (.cells #[.string ⟨#[110, 111, 116]⟩] 9)) none := kA.alloc _
    have hO3 : Hid ((W2.alloc (.cells #[.string ⟨#[110, 111, 116]⟩] 9)).ownsRow (w.heap.size + 1) 9 1 (.slice (some ⟨W2.heap.size, 0, none⟩) 1 1) 1 ([Ru.kwNot].flatMap strVal)) := Lib.hid (own_strs [Ru.kwNot] (by have := kA.size; omega) (by simp))
    have hI3 : Hid (IsStrs (W2.alloc (.cells #[.string ⟨#[110, 111, 116]⟩] 9)) v3 ws) := Lib.hid (hI2.out.keep ((Kp.refl _ none).alloc _))
    refine hK.out _ _ (HS.out _ kB) (fun hHeld => ?_)
    clear hK K
    try simp only [Act.put, sm]
    refine wpAnyH_ready (rs := [8]) (by kernel_rfl) (by simp) ?_
    refine AllReadyH.cons (o := _) rfl (fun K hK => ?_) AllReadyH.nil
    refine step_app (by rfl) _ _ (w.heap.size + 1) 68 9 (by rfl) i0 _ 1 16 Tryz.underlying68 hi hz0 hz1 hz2 rfl (by omega) (fun _ => rfl) (by simp [strVal, Value.oneCell']) _ 1 _ (by rfl) hO3.out v3 ws (by rfl) hI3.out (by unfold maxLen; omega) (by omega) (by have := kB.size; omega) ?_
    intro v5 w5 hown5 hgrow5 _
    have kC : Kp W0 w5 none := Kp.row kB hgrow5 (fun r hr => by have := (hO3.out.lt r hr).1; omega)
    refine hK.out _ _ (HS.out _ kC) (fun hHeld => ?_)
    clear hK K
    try simp only [Act.put, sm]
    refine tkH 9 rfl ?_
    try simp only [Act.put, sm]
    clear hHeld
    refine wpAnyH_done (by kernel_rfl) ?_ _
    go_wp2_with fail
    go_ret
    exact HFIN.out _ _ kC hown5
end Go.Proofs.YtnchipahdfbliaaGreatDoor
