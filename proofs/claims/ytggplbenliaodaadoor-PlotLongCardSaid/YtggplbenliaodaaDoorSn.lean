/- The chapter's example, and the laws' sanity. Condition: the library's table of powers. -/
import Derived.Test.YtggplbenliaodaaDoorPlG
import Derived.Test.YtggplbenliaodaaDoorSa
import Derived.Test.YtggplbenliaodaaDoorWw
import Derived.Test.YtggplbenliaodaaDoorMp
import Derived.Test.YtggplbenliaodaaDoorPt
import Derived.Test.YtggplbenliaodaaDoorEd
import Derived.Test.YtggplbenliaodaaDoorVe
import Derived.Test.YtggplbenliaodaaDoorPlA
import Derived.Deep.CutBlock
import Derived.Deep.CutRange
namespace Go.Proofs.YtggplbenliaodaaDoor
open Go.RowKit

theorem LiesAt.dt {w : World} {ao : Option Addr} {cap : Nat} {ts : List DT} (h : LiesAt 4 dtC w ao cap ts) {k : Nat} (hk : k < ts.length) : ∃ b off, ao = some ⟨b, off, none⟩ ∧ ts.length ≤ cap ∧ ∀ V, Kp w V none →
    V.cell? ⟨b, off + k * 4, none⟩ = some (.int .i64 ts[k].d.s.k) ∧ V.cell? ⟨b, off + k * 4 + 1, none⟩ = some (.slice ts[k].ea ts[k].d.s.es.length ts[k].ec) ∧ V.cell? ⟨b, off + k * 4 + 2, none⟩ = some (.int .i64 ts[k].d.s.r) ∧ V.cell? ⟨b, off + k * 4 + 3, none⟩ = some (.bool ts[k].d.clear) := by
  obtain ⟨b, off, e, hb, hc, hr⟩ := h k hk
  refine ⟨b, off, e, hc, fun V kv => ?_⟩
  have q : ∀ j (hj : j < (dtC ts[k]).length), V.cell? ⟨b, off + k * 4 + j, none⟩ = some (dtC ts[k])[j] := fun j hj => (kv.below.cell (p := ⟨b, off + k * 4 + j, none⟩) hb).trans (hr j hj)
  exact ⟨q 0 (by simp [dtC]), q 1 (by simp [dtC]), q 2 (by simp [dtC]), q 3 (by simp [dtC])⟩

def ExIs (w : World) (E : Ending) (w' : World) : Prop := ∃ (ts : List DT) (ao : Option Addr) (cap : Nat), E = .returned (.slice ao 3 cap) ∧ ts.map (·.d) = Pl.exDs ∧ ts.length = 3 ∧ LiesAt 4 dtC w' ao cap ts ∧ (∀ z ∈ ts, LiesAt 7 edC w' z.ea z.ec z.d.s.es) ∧ (ao = none → cap = 0) ∧ 3 ≤ cap ∧ Kp w w' none
theorem dts3 (w : World) (a b c : DT) : LiesAt 4 dtC (w.alloc (Obj.cells #[.int .i64 a.d.s.k, .slice a.ea a.d.s.es.length a.ec, .int .i64 a.d.s.r, .bool a.d.clear, .int .i64 b.d.s.k, .slice b.ea b.d.s.es.length b.ec, .int .i64 b.d.s.r, .bool b.d.clear, .int .i64 c.d.s.k, .slice c.ea c.d.s.es.length c.ec, .int .i64 c.d.s.r, .bool c.d.clear] 31)) (some ⟨w.heap.size, 0, none⟩) 3 [a, b, c] := fun k hk => by
  refine ⟨w.heap.size, 0, rfl, by simp, Nat.le_refl _, fun j hj => ?_⟩
  have hk' : k = 0 ∨ k = 1 ∨ k = 2 := by simp at hk; omega
  have hj' : j = 0 ∨ j = 1 ∨ j = 2 ∨ j = 3 := by
    have : j < 4 := by rcases hk' with rfl | rfl | rfl <;> simpa [dtC] using hj
    omega
  rcases hk' with rfl | rfl | rfl <;> rcases hj' with rfl | rfl | rfl | rfl <;> exact hcell (heap_alloc_new w _) _ rfl
set_option maxHeartbeats 4000000 in
set_option maxRecDepth 100000 in
theorem example_any (w : World) : Calls Tryd.prog 7 #[] w (ExIs w) := by
  have HD : Hid (∀ V, Calls Tryd.prog 5 #[.agg #[.int .i64 5, .int .i64 (-3)], .int .i64 2] V fun E w' => ∃ ao cap, E = .returned (.agg #[.int .i64 1, .slice ao 1 cap, .int .i64 2]) ∧ LiesAt 7 edC w' ao cap (Pl.disc ⟨5, -3⟩ 2).es ∧ Kp V w' none) := Lib.hid (fun V => (disc_any 5 (-3) 2 V).mono (fun E W ⟨ao, cap, h1, h2, _, h4⟩ => ⟨ao, cap, h1, h2, h4⟩))
  have HRC : Hid (∀ V, Calls Tryd.prog 19 #[.agg #[.int .i64 0, .int .i64 0, .int .i64 4, .int .i64 4]] V fun E w' => ∃ ao cap, E = .returned (.agg #[.int .i64 2, .slice ao 4 cap, .int .i64 0]) ∧ LiesAt 7 edC w' ao cap Pl.exRect.es ∧ Kp V w' none) := Lib.hid (fun V => (rrect_any 0 0 4 4 V).mono (fun E W ⟨ao, cap, h1, h2, _, h4⟩ => ⟨ao, cap, h1, h2, h4⟩))
  go_enter Tryd.func7, Tryd.ntmps7
  go_wp2_with fail
  have HPC : Hid (∀ V, Kp ((w.alloc (Obj.cells #[.int .i64 1, .int .i64 0, .int .i64 0, .int .i64 9, .int .i64 0, .int .i64 0, .int .i64 0, .int .i64 2, .int .i64 9, .int .i64 0, .int .i64 14, .int .i64 5, .int .i64 9, .int .i64 5] 42)).alloc (Obj.cells #[.int .i64 1, .slice (some ⟨w.heap.size, 0, none⟩) 2 2, .int .i64 3] 26)) V none → V.cell? ⟨w.heap.size + 1, 0, none⟩ = some (.int .i64 1) ∧ V.cell? ⟨w.heap.size + 1, 1, none⟩ = some (.slice (some ⟨w.heap.size, 0, none⟩) 2 2) ∧ V.cell? ⟨w.heap.size + 1, 2, none⟩ = some (.int .i64 3)) := Lib.hid (fun V k => by
    have h : ((w.alloc (Obj.cells #[.int .i64 1, .int .i64 0, .int .i64 0, .int .i64 9, .int .i64 0, .int .i64 0, .int .i64 0, .int .i64 2, .int .i64 9, .int .i64 0, .int .i64 14, .int .i64 5, .int .i64 9, .int .i64 5] 42)).alloc (Obj.cells #[.int .i64 1, .slice (some ⟨w.heap.size, 0, none⟩) 2 2, .int .i64 3] 26)).heap[w.heap.size + 1]? = some (Obj.cells #[.int .i64 1, .slice (some ⟨w.heap.size, 0, none⟩) 2 2, .int .i64 3] 26 (0, 0)) := by have h := heap_alloc_new (w.alloc (Obj.cells #[.int .i64 1, .int .i64 0, .int .i64 0, .int .i64 9, .int .i64 0, .int .i64 0, .int .i64 0, .int .i64 2, .int .i64 9, .int .i64 0, .int .i64 14, .int .i64 5, .int .i64 9, .int .i64 5] 42)) (Obj.cells #[.int .i64 1, .slice (some ⟨w.heap.size, 0, none⟩) 2 2, .int .i64 3] 26); simpa using h
    exact ⟨hcell (blk h k) 0 rfl, hcell (blk h k) 1 rfl, hcell (blk h k) 2 rfl⟩)
  have HPE : Hid (∀ V, Kp ((w.alloc (Obj.cells #[.int .i64 1, .int .i64 0, .int .i64 0, .int .i64 9, .int .i64 0, .int .i64 0, .int .i64 0, .int .i64 2, .int .i64 9, .int .i64 0, .int .i64 14, .int .i64 5, .int .i64 9, .int .i64 5] 42)).alloc (Obj.cells #[.int .i64 1, .slice (some ⟨w.heap.size, 0, none⟩) 2 2, .int .i64 3] 26)) V none → LiesAt 7 edC V (some ⟨w.heap.size, 0, none⟩) 2 Pl.exPath.es) := Lib.hid (fun V k => (IsList.lies (n := 2) ((ed_list2 (w := w) ⟨1, ⟨0, 0⟩, ⟨9, 0⟩, ⟨0, 0⟩⟩ ⟨2, ⟨9, 0⟩, ⟨14, 5⟩, ⟨9, 5⟩⟩).keep ((Kp.refl _ none).alloc _))).keep k)
  have KB : Hid (Kp w ((w.alloc (Obj.cells #[.int .i64 1, .int .i64 0, .int .i64 0, .int .i64 9, .int .i64 0, .int .i64 0, .int .i64 0, .int .i64 2, .int .i64 9, .int .i64 0, .int .i64 14, .int .i64 5, .int .i64 9, .int .i64 5] 42)).alloc (Obj.cells #[.int .i64 1, .slice (some ⟨w.heap.size, 0, none⟩) 2 2, .int .i64 3] 26)) none) := Lib.hid (((Kp.refl w none).alloc _).alloc _)
  generalize (w.alloc (Obj.cells #[.int .i64 1, .int .i64 0, .int .i64 0, .int .i64 9, .int .i64 0, .int .i64 0, .int .i64 0, .int .i64 2, .int .i64 9, .int .i64 0, .int .i64 14, .int .i64 5, .int .i64 9, .int .i64 5] 42)).alloc (Obj.cells #[.int .i64 1, .slice (some ⟨w.heap.size, 0, none⟩) 2 2, .int .i64 3] 26) = wB at *
  refine wp_region_last (fun V => V.cell? ⟨w.heap.size + 1, 0, none⟩ = some (.int .i64 1) ∧ V.cell? ⟨w.heap.size + 1, 1, none⟩ = some (.slice (some ⟨w.heap.size, 0, none⟩) 2 2) ∧ V.cell? ⟨w.heap.size + 1, 2, none⟩ = some (.int .i64 3) ∧ True) 9 (by kernel_rfl) ?_ (fun hHeld => ?_)
  · exact ⟨(HPC.out _ (Kp.refl wB none).drew).1, (HPC.out _ (Kp.refl wB none).drew).2.1, (HPC.out _ (Kp.refl wB none).drew).2.2, trivial⟩
  refine tkL 0 rfl ?_
  try simp only [Act.put, sm]
  refine tkL 3 rfl ?_
  try simp only [Act.put, sm]
  refine tkL 6 rfl ?_
  try simp only [Act.put, sm]
  refine tkL 7 rfl ?_
  try simp only [Act.put, sm]
  refine wpAnyL_ready (rs := [1]) (by kernel_rfl) (by simp) ?_
  refine AllReadyL.cons (o := _) rfl (fun K hK => ?_) AllReadyL.nil
  have gK := hHeld
  clear hHeld
  clear gK
  go_simp
  refine (HD.out _).mono ?_
  rintro E w2 ⟨ea, ca, rfl, hl, kk⟩
  have HLea := Lib.hid hl
  have Kw2 : Hid (Kp wB w2 none) := Lib.hid (((Kp.refl wB none).drew).trans kk)
  clear hl kk
  try go_wp2_with fail
  refine hK.out _ _ ?_ (fun hHeld => ?_)
  · exact ⟨(HPC.out _ Kw2.out).1, (HPC.out _ Kw2.out).2.1, (HPC.out _ Kw2.out).2.2, trivial⟩
  clear hK K
  try simp only [Act.put, sm]
  refine tkL 2 rfl ?_
  try simp only [Act.put, sm]
  refine wpAnyL_ready (rs := [4]) (by kernel_rfl) (by simp) ?_
  refine AllReadyL.cons (o := _) rfl (fun K hK => ?_) AllReadyL.nil
  have gK := hHeld
  clear hHeld
  clear gK
  go_simp
  refine (HRC.out _).mono ?_
  rintro E w3 ⟨eb, cb, rfl, hl, kk⟩
  have HLeb := Lib.hid hl
  have Kw3 : Hid (Kp wB w3 none) := Lib.hid (Kw2.out.trans kk)
  have HLa := Lib.hid (HLea.out.keep kk)
  clear hl kk
  try go_wp2_with fail
  refine hK.out _ _ ?_ (fun hHeld => ?_)
  · exact ⟨(HPC.out _ Kw3.out).1, (HPC.out _ Kw3.out).2.1, (HPC.out _ Kw3.out).2.2, trivial⟩
  clear hK K
  try simp only [Act.put, sm]
  refine tkL 5 rfl ?_
  try simp only [Act.put, sm]
  refine wpAnyL_ready (rs := [8]) (by kernel_rfl) (by simp) ?_
  refine AllReadyL.cons (o := _) rfl (fun K hK => ?_) AllReadyL.nil
  have gK := hHeld
  clear hHeld
  clear gK
  go_simp
  have K4 : Hid (Kp wB (w3.alloc (Obj.cells #[.int .i64 1, .slice ea 1 ca, .int .i64 2, .bool false, .int .i64 2, .slice eb 4 cb, .int .i64 0, .bool true, .int .i64 1, .slice (some ⟨w.heap.size, 0, none⟩) 2 2, .int .i64 3, .bool false] 31)) none) := Lib.hid (Kw3.out.alloc _)
  have kk : Kp w3 (w3.alloc (Obj.cells #[.int .i64 1, .slice ea 1 ca, .int .i64 2, .bool false, .int .i64 2, .slice eb 4 cb, .int .i64 0, .bool true, .int .i64 1, .slice (some ⟨w.heap.size, 0, none⟩) 2 2, .int .i64 3, .bool false] 31)) none := (Kp.refl w3 none).alloc _
  have HTS := Lib.hid (dts3 w3 ⟨⟨Pl.disc ⟨5, -3⟩ 2, false⟩, ea, ca⟩ ⟨⟨Pl.exRect, true⟩, eb, cb⟩ ⟨⟨Pl.exPath, false⟩, some ⟨w.heap.size, 0, none⟩, 2⟩)
  have HLa2 := Lib.hid (HLa.out.keep kk)
  have HLb2 := Lib.hid (HLeb.out.keep kk)
  clear kk
  try go_wp2_with fail
  refine hK.out _ _ ?_ (fun hHeld => ?_)
  · exact ⟨(HPC.out _ K4.out).1, (HPC.out _ K4.out).2.1, (HPC.out _ K4.out).2.2, trivial⟩
  clear hK K
  try simp only [Act.put, sm]
  refine wpAnyL_ready (rs := [9]) (by kernel_rfl) (by simp) ?_
  refine AllReadyL.last (o := _) rfl (fun K hK => ?_)
  clear hHeld
  go_simp
  try go_wp2_with fail
  refine hK.out _ _ ?_
  clear hK K
  try simp only [Act.put, sm]
  refine wpAnyL_done (by kernel_rfl) ?_ _
  go_wp2_with fail
  go_ret
  refine ⟨[⟨⟨Pl.disc ⟨5, -3⟩ 2, false⟩, ea, ca⟩, ⟨⟨Pl.exRect, true⟩, eb, cb⟩, ⟨⟨Pl.exPath, false⟩, some ⟨w.heap.size, 0, none⟩, 2⟩], _, _, rfl, rfl, rfl, HTS.out, fun z hz => ?_, (fun h => absurd h (by simp)), Nat.le_refl _, KB.out.trans K4.out⟩
  simp only [List.mem_cons, List.not_mem_nil, or_false] at hz
  rcases hz with rfl | rfl | rfl
  · exact HLa2.out
  · exact HLb2.out
  · exact HPE.out _ K4.out
theorem ex_mid : ∀ d ∈ Pl.exDs, (0 < d.s.es.length ∧ d.s.es.length ≤ 1000) ∧ ∀ e ∈ d.s.es, MidE e := by
  unfold MidE MidP Mid
  decide
set_option maxHeartbeats 16000000 in
set_option maxRecDepth 100000 in
theorem sanity_any (w : World) (he : Env w) : Calls Tryd.prog 4 #[] w fun E w' => E = .returned (.bool true) ∧ Kp w w' none := by
  have HE := Lib.hid he
  have HWX : Hid (∀ (ts : List DT) ao cap V, Kp w V none → ts.map (·.d) = Pl.exDs → ts.length = 3 → LiesAt 4 dtC V ao cap ts → (∀ z ∈ ts, LiesAt 7 edC V z.ea z.ec z.d.s.es) → Calls Tryd.prog 6 #[.slice ao 3 cap] V fun E w' => E = .returned (.tuple #[.string ⟨#[71, 48, 52, 32, 101, 116, 99, 104, 97, 110, 116, 42, 10, 37, 70, 83, 76, 65, 88, 57, 48, 89, 57, 48, 42, 37, 10, 37, 77, 79, 77, 77, 42, 37, 10, 37, 65, 68, 68, 49, 48, 67, 44, 52, 42, 37, 10, 37, 65, 68, 68, 49, 49, 67, 44, 54, 42, 37, 10, 37, 76, 80, 68, 42, 37, 10, 68, 49, 48, 42, 10, 88, 53, 89, 45, 51, 68, 48, 51, 42, 10, 37, 76, 80, 67, 42, 37, 10, 71, 51, 54, 42, 10, 88, 48, 89, 48, 68, 48, 50, 42, 10, 71, 48, 49, 88, 52, 89, 48, 68, 48, 49, 42, 10, 71, 48, 49, 88, 52, 89, 52, 68, 48, 49, 42, 10, 71, 48, 49, 88, 48, 89, 52, 68, 48, 49, 42, 10, 71, 48, 49, 88, 48, 89, 48, 68, 48, 49, 42, 10, 71, 51, 55, 42, 10, 37, 76, 80, 68, 42, 37, 10, 68, 49, 49, 42, 10, 88, 48, 89, 48, 68, 48, 50, 42, 10, 71, 48, 49, 88, 57, 89, 48, 68, 48, 49, 42, 10, 71, 48, 51, 88, 49, 52, 89, 53, 73, 48, 74, 53, 68, 48, 49, 42, 10, 77, 48, 50, 42, 10]⟩, .int .i64 0]) ∧ Kp V w' none) := Lib.hid (fun ts ao cap V k h1 h2 h3 h4 => (write_any (ts.map (·.d)) 3 (by rw [List.length_map, h2]) ao cap V (HE.out.kp0 k) (drs_lies h3 h4) (by omega)).mono (fun E W h => by
    unfold WriteIs at h
    rw [h1, Pl.ex_file] at h
    exact h))
  have HWZ : Hid (∀ V, Kp w V none → Calls Tryd.prog 6 #[.slice (some ⟨V.heap.size, 0, none⟩) 1 1] (V.alloc (Obj.cells #[.int .i64 0, .slice none 0 0, .int .i64 0, .bool false] 31)) fun E w' => E = .returned (.tuple #[.string ⟨#[]⟩, .int .i64 12]) ∧ Kp V w' none) := Lib.hid (fun V k => (write_any [⟨⟨0, [], 0⟩, false⟩] 1 rfl (some ⟨V.heap.size, 0, none⟩) 1 _ (HE.out.kp0 (k.alloc _)) (fun i hi => by
    have hi0 : i = 0 := by simpa using hi
    subst hi0
    exact ⟨V.heap.size, 0, none, 0, rfl, Nat.le_refl _, by simp, hcell (heap_alloc_new V _) 0 rfl, hcell (heap_alloc_new V _) 1 rfl, hcell (heap_alloc_new V _) 2 rfl, hcell (heap_alloc_new V _) 3 rfl, fun j hj => absurd hj (by simp)⟩) (by omega)).mono (fun E W h => by
    unfold WriteIs at h
    rw [Pl.ex_bad] at h
    exact ⟨h.1, ((Kp.refl V none).alloc _).trans h.2⟩))
  have HMV : Hid (∀ (ts : List DT) ao cap V, ts.map (·.d) = Pl.exDs → ts.length = 3 → LiesAt 4 dtC V ao cap ts → (ao = none → cap = 0) → (∀ z ∈ ts, LiesAt 7 edC V z.ea z.ec z.d.s.es) → Calls Tryd.prog 8 #[.slice ao 3 cap, .agg #[.int .i64 1, .int .i64 0, .int .i64 0, .bool false]] V (MovedIs ⟨⟨1, 0⟩, 0, false⟩ ts V)) := Lib.hid (fun ts ao cap V h1 h2 h3 h4 h5 => pmove_any 1 0 0 false ts 3 h2 ao cap V h3 h4 h5 (by omega) (fun z hz => by
    have hm : z.d ∈ Pl.exDs := by rw [← h1]; exact List.mem_map_of_mem hz
    exact ex_mid z.d hm) (by unfold Mid; omega))
  have HD6 : Hid (∀ V, Calls Tryd.prog 5 #[.agg #[.int .i64 6, .int .i64 (-3)], .int .i64 2] V fun E w' => ∃ ao cap, E = .returned (.agg #[.int .i64 1, .slice ao 1 cap, .int .i64 2]) ∧ LiesAt 7 edC w' ao cap (Pl.disc ⟨6, -3⟩ 2).es ∧ Kp V w' none) := Lib.hid (fun V => (disc_any 6 (-3) 2 V).mono (fun E W ⟨ao, cap, h1, h2, _, h4⟩ => ⟨ao, cap, h1, h2, h4⟩))
  clear he
  go_enter Tryd.func4, Tryd.ntmps4
  go_wp2_with fail
  refine (example_any _).mono ?_
  rintro E w1 ⟨ts, ao, cap, rfl, t1, t2, t3, t4, t5, t6, k1⟩
  have K1 := Lib.hid k1
  have HX := HWX.out ts ao cap w1 k1 t1 t2 t3 t4
  clear t1 t2 t3 t4 t5 t6 k1
  go_wp2_with fail
  refine HX.mono ?_
  rintro E w2 ⟨rfl, k2⟩
  have K2 := Lib.hid (K1.out.trans k2)
  clear k2 HX K1
  go_wp2_with fail
  refine (HWZ.out _ K2.out).mono ?_
  rintro E w3 ⟨rfl, k3⟩
  have K3 := Lib.hid (K2.out.trans k3)
  clear k3 K2
  go_wp2_with fail
  refine (example_any _).mono ?_
  rintro E w4 ⟨us, bo, cb, rfl, t1, t2, t3, t4, t5, t6, k4⟩
  have K4 := Lib.hid (K3.out.trans k4)
  have HX := HMV.out us bo cb w4 t1 t2 t3 t5 t4
  have HT1 := Lib.hid t1
  clear t1 t2 t3 t4 t5 t6 k4 K3
  go_wp2_with fail
  refine HX.mono ?_
  rintro E w5 ⟨vs, co, cc, v1, rfl, v3, v4, v5, k5⟩
  have K5 := Lib.hid (K4.out.trans k5)
  have hvm : vs.map (·.d) = Pl.exDs.map (Pl.moveD ⟨⟨1, 0⟩, 0, false⟩) := by rw [v1, ← HT1.out, List.map_map]; rfl
  have hvl : vs.length = 3 := by have h := congrArg List.length hvm; simpa [Pl.exDs] using h
  have h0 : (vs[0]'(by omega)).d = ⟨Pl.disc ⟨6, -3⟩ 2, false⟩ := by
    have h : (vs.map (·.d))[0]'(by simp; omega) = (Pl.exDs.map (Pl.moveD ⟨⟨1, 0⟩, 0, false⟩))[0]'(by simp [Pl.exDs]) := by simp only [hvm]
    rw [List.getElem_map] at h
    rw [h]
    decide
  have h1 : (vs[1]'(by omega)).d.clear = true := by
    have h : (vs.map (·.d))[1]'(by simp; omega) = (Pl.exDs.map (Pl.moveD ⟨⟨1, 0⟩, 0, false⟩))[1]'(by simp [Pl.exDs]) := by simp only [hvm]
    rw [List.getElem_map] at h
    rw [h]
    rfl
  obtain ⟨b, off, rfl, hcap, hc0⟩ := v3.dt (k := 0) (by omega)
  obtain ⟨b2, off2, e2, _, hc1⟩ := v3.dt (k := 1) (by omega)
  injection e2 with e2
  injection e2 with e3 e4
  subst e3; subst e4
  have hel := v4 _ (List.getElem_mem (show 0 < vs.length by omega))
  obtain ⟨x, hx⟩ : ∃ x, vs[0]'(by omega) = x := ⟨_, rfl⟩
  obtain ⟨y, hy⟩ : ∃ x, vs[1]'(by omega) = x := ⟨_, rfl⟩
  rw [hx] at h0 hc0 hel
  rw [hy] at h1 hc1
  obtain ⟨⟨s0, cl0⟩, e0, c0⟩ := x
  obtain ⟨⟨s1, cl1⟩, e1, c1⟩ := y
  dsimp only at h0 h1 hc0 hc1 hel
  injection h0 with h0 _
  subst h0
  subst h1
  have HMC : Hid (∀ V, Kp w5 V none → V.cell? ⟨b, off, none⟩ = some (.int .i64 1) ∧ V.cell? ⟨b, off + 1, none⟩ = some (.slice e0 1 c0) ∧ V.cell? ⟨b, off + 2, none⟩ = some (.int .i64 2) ∧ V.cell? ⟨b, off + 4 + 3, none⟩ = some (.bool true)) := Lib.hid (fun V k => by
    have q0 := hc0 V k
    have q1 := hc1 V k
    simp only [Nat.zero_mul, Nat.add_zero, Nat.one_mul] at q0 q1
    exact ⟨q0.1, q0.2.1, q0.2.2.1, q1.2.2.2⟩)
  have HS6 : Hid (∀ V ea ca, Kp w5 V none → LiesAt 7 edC V ea ca (Pl.disc ⟨6, -3⟩ 2).es → Calls Tryd.prog 9 #[.agg #[.int .i64 1, .slice e0 1 c0, .int .i64 2], .agg #[.int .i64 1, .slice ea 1 ca, .int .i64 2]] V fun E w' => E = .returned (.bool true) ∧ Kp V w' none) := Lib.hid (fun V ea ca k hl => by
    have h := rsame_any 1 2 1 2 (Pl.disc ⟨6, -3⟩ 2).es (Pl.disc ⟨6, -3⟩ 2).es 1 1 rfl rfl e0 ea c0 ca V (hel.keep k) hl (by omega) (by omega)
    rw [decide_eq_true rfl] at h
    exact h)
  have hvl3 : (3 : Int) ≤ (cc : Int) := by have := v5.1; omega
  have hcn : 3 ≤ cc := by omega
  rw [hvl]
  clear hc0 hc1 hel hx hy v1 v3 v4 v5 hvm hcap k5 HX HT1 K4 HMV HWX HWZ
  go_wp2_with fail
  refine wp_region_last (fun V => V.cell? ⟨b, off, none⟩ = some (.int .i64 1) ∧ V.cell? ⟨b, off + 1, none⟩ = some (.slice e0 1 c0) ∧ V.cell? ⟨b, off + 2, none⟩ = some (.int .i64 2) ∧ V.cell? ⟨b, off + 4 + 3, none⟩ = some (.bool true) ∧ True) 30 (by kernel_rfl) ?_ (fun hHeld => ?_)
  · exact ⟨(HMC.out _ (Kp.refl w5 none).drew).1, (HMC.out _ (Kp.refl w5 none).drew).2.1, (HMC.out _ (Kp.refl w5 none).drew).2.2.1, (HMC.out _ (Kp.refl w5 none).drew).2.2.2, trivial⟩
  refine tkL 0 rfl ?_
  try simp only [Act.put, sm]
  refine tkL 1 rfl ?_
  try simp only [Act.put, sm]
  refine tkL 2 rfl ?_
  try simp only [Act.put, sm]
  refine tkL 3 rfl ?_
  try simp only [Act.put, sm]
  refine tkL 4 rfl ?_
  try simp only [Act.put, sm]
  refine tkL 5 rfl ?_
  try simp only [Act.put, sm]
  refine tkL 6 rfl ?_
  try simp only [Act.put, sm]
  refine tkL 7 rfl ?_
  try simp only [Act.put, sm]
  refine tkL 8 rfl ?_
  try simp only [Act.put, sm]
  refine tkL 9 rfl ?_
  try simp only [Act.put, sm]
  refine tkL 10 rfl ?_
  try simp only [Act.put, sm]
  refine tkL 11 rfl ?_
  try simp only [Act.put, sm]
  refine tkL 12 rfl ?_
  try simp only [Act.put, sm]
  refine tkL 13 rfl ?_
  try simp only [Act.put, sm]
  refine tkL 14 rfl ?_
  try simp only [Act.put, sm]
  refine tkL 15 rfl ?_
  try simp only [Act.put, sm]
  refine tkL 16 rfl ?_
  try simp only [Act.put, sm]
  refine tkL 17 rfl ?_
  try simp only [Act.put, sm]
  refine tkL 18 rfl ?_
  try simp only [Act.put, sm]
  refine tkL 19 rfl ?_
  try simp only [Act.put, sm]
  refine tkL 20 rfl ?_
  try simp only [Act.put, sm]
  refine wpAnyL_ready (rs := [21]) (by kernel_rfl) (by simp) ?_
  refine AllReadyL.cons (o := _) rfl (fun K hK => ?_) AllReadyL.nil
  have gK := hHeld
  clear hHeld
  clear gK
  go_simp
  refine (HD6.out _).mono ?_
  rintro E w6 ⟨ea, ca, rfl, hl, kk⟩
  have HL6 := Lib.hid hl
  have K6 : Hid (Kp w5 w6 none) := Lib.hid ((Kp.refl w5 none).drew.trans kk)
  clear hl kk
  try go_wp2_with fail
  refine hK.out _ _ ?_ (fun hHeld => ?_)
  · exact ⟨(HMC.out _ K6.out).1, (HMC.out _ K6.out).2.1, (HMC.out _ K6.out).2.2.1, (HMC.out _ K6.out).2.2.2, trivial⟩
  clear hK K
  try simp only [Act.put, sm]
  refine wpAnyL_ready (rs := [22]) (by kernel_rfl) (by simp) ?_
  refine AllReadyL.cons (o := _) rfl (fun K hK => ?_) AllReadyL.nil
  have gK := hHeld
  clear hHeld
  clear gK
  go_simp
  refine (HS6.out _ _ _ K6.out HL6.out).mono ?_
  rintro E w7 ⟨rfl, kk⟩
  have K7 : Hid (Kp w5 w7 none) := Lib.hid (K6.out.trans kk)
  clear kk
  try go_wp2_with fail
  refine hK.out _ _ ?_ (fun hHeld => ?_)
  · exact ⟨(HMC.out _ K7.out).1, (HMC.out _ K7.out).2.1, (HMC.out _ K7.out).2.2.1, (HMC.out _ K7.out).2.2.2, trivial⟩
  clear hK K
  try simp only [Act.put, sm]
  refine tkL 23 rfl ?_
  try simp only [Act.put, sm]
  refine tkL 24 rfl ?_
  try simp only [Act.put, sm]
  refine tkL 25 rfl ?_
  try simp only [Act.put, sm]
  refine tkL 26 rfl ?_
  try simp only [Act.put, sm]
  refine tkL 27 rfl ?_
  try simp only [Act.put, sm]
  refine tkL 28 rfl ?_
  try simp only [Act.put, sm]
  refine tkL 29 rfl ?_
  try simp only [Act.put, sm]
  refine wpAnyL_ready (rs := [30]) (by kernel_rfl) (by simp) ?_
  refine AllReadyL.last (o := _) rfl (fun K hK => ?_)
  clear hHeld
  go_simp
  try go_wp2_with fail
  refine hK.out _ _ ?_
  clear hK K
  try simp only [Act.put, sm]
  refine wpAnyL_done (by kernel_rfl) ?_ _
  go_wp2_with fail
  go_ret
  exact ⟨rfl, K5.out.trans K7.out⟩

end Go.Proofs.YtggplbenliaodaaDoor
