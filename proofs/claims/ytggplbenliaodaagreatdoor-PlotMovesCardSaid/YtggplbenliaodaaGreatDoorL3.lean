/- The law PlotWrites: files, and errors, are those of the reference. Condition: the library's table of powers. -/
import Derived.Test.YtggplbenliaodaaGreatDoorSn
import Derived.Deep.CutBlock
import Derived.Deep.CutRange
namespace Go.Proofs.YtggplbenliaodaaGreatDoor
open Go.RowKit

theorem LiesRows.keep {w w' : World} {ao : Option Addr} {cap : Nat} {rows : List (List Int)} (h : LiesRows w ao cap rows) (k : Kp w w' none) : LiesRows w' ao cap rows := fun i hi => by
  obtain ⟨b, off, ra, rc, e, h1, h2, h3, h4, h5, h6⟩ := h i hi
  exact ⟨b, off, ra, rc, e, h1, Nat.lt_of_lt_of_le h2 k.size, (k.below.cell (p := ⟨b, off + i, none⟩) h2).trans h3, h4.keep k, h5, h6⟩
theorem own_keep {w w' : World} {base size n : Nat} {e : TypeId} {v : Value} {xs : List Value} (h : w.ownsRow base e size v n xs) (k : Kp w w' none) : w'.ownsRow base e size v n xs := h.kept k (by cases v.ownBlock <;> simp)
theorem dt_lies {w : World} {rb : Nat} {rk rr : Int} {es : List Pl.Ed} {ea : Option Addr} {j ec : Nat} {c : Bool} (h : w.heap[rb]? = some (.cells #[.int .i64 rk, .slice ea j ec, .int .i64 rr, .bool c] 30 (0, 0))) (hj : es.length = j) : IsList 4 dtC w (.slice (some ⟨rb, 0, none⟩) 1 1) [⟨⟨⟨rk, es, rr⟩, c⟩, ea, ec⟩] := by
  subst hj
  refine .inr ⟨rb, 0, 1, rfl, by simp, lt_of_block h, fun k hk i hi => ?_⟩
  simp at hk; subst hk
  have hi' : i = 0 ∨ i = 1 ∨ i = 2 ∨ i = 3 := by
    have : i < 4 := by simpa [dtC] using hi
    omega
  rcases hi' with rfl | rfl | rfl | rfl <;> exact hcell h _ rfl
theorem lies_set {α : Type} {m : Nat} {f : α → List Value} (h4 : ∀ x, 4 ≤ (f x).length) {w w' : World} {ao : Option Addr} {cap R : Nat} {xs : List α} {a b c : Value} {T : TypeId} (h : LiesAt m f w ao cap xs) (hR : w.heap[R]? = some (.cells #[a, b, c] T (0, 0))) (k : Kp w w' (some R)) : LiesAt m f w' ao cap xs := fun i hi => by
  obtain ⟨b2, off, e, hb, hc, hr⟩ := h i hi
  have hne : b2 ≠ R := fun e2 => by
    have h3 := hr 3 (by have := h4 xs[i]; omega)
    subst e2
    simp only [World.cell?, hR] at h3
    have : (#[a, b, c] : Array Value)[off + i * m + 3]? = none := by rw [Array.getElem?_eq_none]; simp
    simp [] at h3
  exact ⟨b2, off, e, Nat.lt_of_lt_of_le hb k.size, hc, fun j hj => by rw [World.grownBy.cell_far k ⟨b2, off + i * m + j, none⟩ hb (fun q => hne (Option.some.inj q))]; exact hr j hj⟩
theorem lies_take {α : Type} {m : Nat} {f : α → List Value} {w : World} {ao : Option Addr} {cap : Nat} {xs : List α} (h : LiesAt m f w ao cap xs) (k : Nat) (hk : k ≤ xs.length) : LiesAt m f w ao cap (xs.take k) := fun i hi => by
  have hi2 : i < xs.length := by rw [List.length_take] at hi; omega
  obtain ⟨b, off, e, hb, hc, hr⟩ := h i hi2
  have e1 : (xs.take k)[i] = xs[i] := List.getElem_take
  refine ⟨b, off, e, hb, by rw [List.length_take]; omega, fun j hj => ?_⟩
  simp only [e1] at hj ⊢
  exact hr j hj
theorem lies_drop {α : Type} {m : Nat} {f : α → List Value} {w : World} {b off cap : Nat} {xs : List α} (h : LiesAt m f w (some ⟨b, off, none⟩) cap xs) (k : Nat) (hk : k ≤ cap) (_ : k ≤ xs.length) : LiesAt m f w (some ⟨b, off + k * m, none⟩) (cap - k) (xs.drop k) := fun i hi => by
  have hi2 : k + i < xs.length := by rw [List.length_drop] at hi; omega
  obtain ⟨b2, off2, e, hb, hc, hr⟩ := h (k + i) hi2
  injection e with e
  injection e with e1 e2
  subst e1; subst e2
  have e3 : (xs.drop k)[i] = xs[k + i] := List.getElem_drop
  refine ⟨b, off + k * m, rfl, hb, by rw [List.length_drop]; omega, fun j hj => ?_⟩
  simp only [e3] at hj ⊢
  rw [show off + k * m + i * m + j = off + (k + i) * m + j by rw [Nat.add_mul]; omega]
  exact hr j hj
/-- A list with one more in it, of the call's own. -/
def OddIs (wB : World) (us : List DT) (n : Nat) (v : Value) (wx : World) : Prop := ∃ bo bc, v = .slice bo (n + 1) bc ∧ wx.ownsRow wB.heap.size 30 4 v us.length (us.flatMap dtC) ∧ Kp wB wx none
theorem OddIs.mk2 {wB wx : World} {us : List DT} {n bc L M : Nat} {bo : Option Addr} {row : List Value} (hl : L = n + 1) (hm : M = n + 1) (hu : us.length = n + 1) (h : wx.ownsRow wB.heap.size 30 4 (.slice bo M bc) M row) (hr : row = us.flatMap dtC) (k : Kp wB wx none) : OddIs wB us n (.slice bo L bc) wx := by
  subst hl; subst hm; subst hr
  exact ⟨bo, bc, rfl, by rw [hu]; exact h, k⟩
theorem OddIs.mk {wB wx : World} {us : List DT} {n bc : Nat} {bo : Option Addr} (h : wx.ownsRow wB.heap.size 30 4 (.slice bo (n + 1) bc) us.length (us.flatMap dtC)) (k : Kp wB wx none) : OddIs wB us n (.slice bo (n + 1) bc) wx := ⟨bo, bc, rfl, h, k⟩
set_option maxHeartbeats 16000000 in
set_option maxRecDepth 100000 in
theorem pwrites_any (rows : List (List Int)) (nr : Nat) (hr : rows.length = nr) (ro : Option Addr) (rc : Nat) (rk rr : Int) (res : List Pl.Ed) (rn : Nat) (hrn : res.length = rn) (ea : Option Addr) (ec : Nat) (at_ : Nat) (w : World) (he : Env w) (hrows : LiesRows w ro rc rows) (hn2 : LenOk nr) (hraw : LiesAt 7 edC w ea ec res) (hec : rn ≤ ec) (hat : at_ < 256) :
    Calls Tryz.prog 3 #[.slice ro nr rc, .agg #[.int .i64 rk, .slice ea rn ec, .int .i64 rr], .int .u8 at_] w fun E w' => E = .returned (.bool true) ∧ Kp w w' none := by
  have HE := Lib.hid he
  have HRW := Lib.hid hrows
  have HRA := Lib.hid hraw
  have HRN := Lib.hid hrn
  obtain ⟨j, hj⟩ : ∃ j, min rn 45 = j := ⟨_, rfl⟩
  have hmin : min (rn : Int) 45 = (j : Int) := by omega
  have hj0 : (0 : Int) ≤ (j : Int) := Int.natCast_nonneg _
  have hjc : (j : Int) ≤ (ec : Int) := by omega
  have hjc2 : j ≤ ec := by omega
  have HJ : Hid (j ≤ 45 ∧ j ≤ rn) := Lib.hid (by omega)
  have hat0 : (0 : Int) ≤ (at_ : Int) := Int.natCast_nonneg _
  clear he hrows hraw hrn hj
  go_enter Tryz.func3, Tryz.ntmps3
  go_wp2_with fail
  have HB0 : Hid ((w.alloc (Obj.cells #[.int .i64 rk, .slice ea rn ec, .int .i64 rr] 25)).heap[w.heap.size]? = some (Obj.cells #[.int .i64 rk, .slice ea rn ec, .int .i64 rr] 25 (0, 0))) := Lib.hid (heap_alloc_new w _)
  have K0 : Hid (Kp w (w.alloc (Obj.cells #[.int .i64 rk, .slice ea rn ec, .int .i64 rr] 25)) none) := Lib.hid ((Kp.refl w none).alloc _)
  refine (sanity_any _ (HE.out.kp0 K0.out)).mono ?_
  rintro E w1 ⟨rfl, k1⟩
  have HB1 := Lib.hid (blk HB0.out k1)
  have K1 := Lib.hid (K0.out.trans k1)
  clear k1 HB0 K0
  go_wp2_with fail
  refine (rmade_any rows nr hr ro rc w1 (HRW.out.keep K1.out) hn2).mono ?_
  rintro E w2 ⟨ts, ao, cap, hfine, hlen, rfl, hli, hed, hcap, hfr, k2⟩
  have HB2 := Lib.hid (blk HB1.out k2)
  have K2 := Lib.hid (K1.out.trans k2)
  have HFI := Lib.hid hfine
  have HLI := Lib.hid hli
  have HED := Lib.hid hed
  have HLEN := Lib.hid hlen
  have HCAP := Lib.hid hcap
  clear k2 HB1 K1 hfine hli hed hfr hcap hlen hr
  obtain ⟨n, hn⟩ : ∃ n, ts.length = n := ⟨_, rfl⟩
  rw [hn] at HLEN HCAP
  rw [hn]
  have HN := Lib.hid hn
  clear hn
  have hn8 : n ≤ 8 := HLEN.out
  have hn80 : (n : Int) ≤ 8 := by omega
  have hn0 : (0 : Int) ≤ (n : Int) := Int.natCast_nonneg _
  have b0 := hcell HB2.out 0 rfl
  have b1 := hcell HB2.out 1 rfl
  have b2 := hcell HB2.out 2 rfl
  have g1 := Lib.frozen_of_heap HB2.out 1
  go_upto_region 5 with fail
  clear b0 b1 b2 g1 hmin hjc
  have hs := heap_set (o := 1) (v := .slice ea j ec) HB2.out
  simp at hs
  have kz : Kp w2 (w2.setCell ⟨w.heap.size, 1, none⟩ (.slice ea j ec)) (some w.heap.size) := (Kp.refl w2 (some w.heap.size)).set _
  have HBB := Lib.hid hs
  have KB : Hid (Kp w (w2.setCell ⟨w.heap.size, 1, none⟩ (.slice ea j ec)) none) := Lib.hid (K2.out.of_own kz (Nat.le_refl _))
  have HLB := Lib.hid (lies_set (f := dtC) (fun x => by simp [dtC]) HLI.out HB2.out kz)
  have HEB := Lib.hid (fun z hz => lies_set (f := edC) (fun x => by simp [edC]) (HED.out z hz) HB2.out kz)
  clear hs kz HB2 K2 HLI HED HRW
  generalize w2.setCell ⟨w.heap.size, 1, none⟩ (.slice ea j ec) = wB at *
  obtain ⟨k, hk⟩ : ∃ k : Nat, (at_ : Int) % ((n : Int) + 1) = (k : Int) := ⟨((at_ : Int) % ((n : Int) + 1)).toNat, by have := Int.emod_nonneg (at_ : Int) (show ((n : Int) + 1) ≠ 0 by omega); omega⟩
  have hkn : k ≤ n := by have := Int.emod_lt_of_pos (at_ : Int) (show 0 < (n : Int) + 1 by omega); omega
  rw [hk]
  clear hk
  have hk0 : (0 : Int) ≤ (k : Int) := Int.natCast_nonneg _
  have hknI : (k : Int) ≤ (n : Int) := by omega
  obtain ⟨c, hc⟩ : ∃ c, ((at_ : Int) % 2 == 0) = c := ⟨_, rfl⟩
  have hc2 : ((at_ : Int).tmod 2 == 0) = c := by rw [Int.tmod_eq_emod_of_nonneg hat0]; exact hc
  obtain ⟨tk, htk⟩ : ∃ l, ts.take k = l := ⟨_, rfl⟩
  obtain ⟨td, htd⟩ : ∃ l, ts.drop k = l := ⟨_, rfl⟩
  have HTKE := Lib.hid htk
  have HTDE := Lib.hid htd
  have HLT : Hid (tk.length = k ∧ td.length = n - k ∧ k ≤ n) := Lib.hid ⟨by rw [← htk, List.length_take, HN.out]; omega, by rw [← htd, List.length_drop, HN.out], hkn⟩
  have HLL : Hid (tk.length ≤ 8 ∧ td.length ≤ 8) := Lib.hid (by have := HLT.out; omega)
  have HMT : Hid (∀ z ∈ tk, z ∈ ts) := Lib.hid (fun z hz => List.mem_of_mem_take (by rw [htk]; exact hz))
  have HMD : Hid (∀ z ∈ td, z ∈ ts) := Lib.hid (fun z hz => List.mem_of_mem_drop (by rw [htd]; exact hz))
  clear htk htd
  have HJE : Hid ((res.take j).length = j) := Lib.hid (by rw [List.length_take, HRN.out]; have := HJ.out; omega)
  obtain ⟨i0, hi, hz0, hz1, hz2⟩ := info_parts infoDr
  have hcap1 : n ≤ cap := HCAP.out.1
  have hcap1I : (n : Int) ≤ (cap : Int) := by omega
  have hkc : (k : Int) ≤ (cap : Int) := by omega
  have HPOST : Hid (∀ bo bc wx, OddIs wB (tk ++ [(⟨⟨⟨rk, res.take j, rr⟩, c⟩, ea, ec⟩ : DT)] ++ td) n (.slice bo (n + 1) bc) wx → LiesAt 4 dtC wx bo bc (tk ++ [(⟨⟨⟨rk, res.take j, rr⟩, c⟩, ea, ec⟩ : DT)] ++ td) ∧ (tk ++ [(⟨⟨⟨rk, res.take j, rr⟩, c⟩, ea, ec⟩ : DT)] ++ td).length = n + 1 ∧ (∀ z ∈ tk ++ [(⟨⟨⟨rk, res.take j, rr⟩, c⟩, ea, ec⟩ : DT)] ++ td, LiesAt 7 edC wx z.ea z.ec z.d.s.es)) := Lib.hid (fun bo bc wx h => by
    obtain ⟨bo', bc', e, ho, kw⟩ := h
    injection e with e1 _ e2
    subst e1; subst e2
    refine ⟨(own_lies (m := 4) (f := dtC) (fun _ => rfl) ho).2, by have := HLT.out; rw [List.length_append, List.length_append, this.1, this.2.1]; simp; omega, fun z hz => ?_⟩
    rcases List.mem_append.1 hz with hz | hz
    · rcases List.mem_append.1 hz with hz | hz
      · exact (HEB.out z (HMT.out z hz)).keep kw
      · rw [List.mem_singleton.1 hz]
        exact (lies_take HRA.out j (by have := HJ.out; have := HRN.out; omega)).keep (KB.out.trans kw)
    · exact (HEB.out z (HMD.out z hz)).keep kw)
  have HT1 := HLB
  clear HLB
  have HSPLIT : Hid (∀ s10 wx, OddIs wB (tk ++ [(⟨⟨⟨rk, res.take j, rr⟩, c⟩, ea, ec⟩ : DT)] ++ td) n s10 wx → OddIs wB (tk ++ [(⟨⟨⟨rk, res.take j, rr⟩, c⟩, ea, ec⟩ : DT)] ++ td) n s10 wx) := Lib.hid (fun _ _ h => h)
  go_cut [10] from 18 to 77 (fun s10 wx => OddIs wB (tk ++ [(⟨⟨⟨rk, res.take j, rr⟩, c⟩, ea, ec⟩ : DT)] ++ td) n s10 wx)
  case first =>
    rcases Nat.eq_zero_or_pos n with h0 | hpos
    · subst h0
      have hk00 : k = 0 := by omega
      subst hk00
      have HTK : Hid (∀ V ao cap, Kp wB V none → IsList 4 dtC V (.slice ao 0 cap) tk) := Lib.hid (fun V ao cap _ => .inl ⟨ao, cap, rfl, List.length_eq_zero_iff.1 HLT.out.1⟩)
      have HDR : Hid (∀ V ao cap, Kp wB V none → IsList 4 dtC V (.slice ao 0 cap) td) := Lib.hid (fun V ao cap _ => .inl ⟨ao, cap, rfl, List.length_eq_zero_iff.1 (by have := HLT.out; omega)⟩)
      have K0 : Hid (Kp wB wB.drew none) := Lib.hid (Kp.refl wB none).drew
      refine wp_region_last (fun V => V.cell? ⟨w.heap.size, 0, none⟩ = some (.int .i64 rk) ∧ V.cell? ⟨w.heap.size, 1, none⟩ = some (.slice ea j ec) ∧ V.cell? ⟨w.heap.size, 2, none⟩ = some (.int .i64 rr) ∧ True) 16 (by kernel_rfl) ?_ (fun hHeld => ?_)
      · exact ⟨hcell (blk HBB.out K0.out) 0 rfl, hcell (blk HBB.out K0.out) 1 rfl, hcell (blk HBB.out K0.out) 2 rfl, trivial⟩
      refine tkL 1 rfl ?_
      try simp only [Act.put, sm]
      refine tkL 2 rfl ?_
      try simp only [Act.put, sm]
      refine tkL 3 rfl ?_
      try simp only [Act.put, sm]
      refine tkL 5 rfl ?_
      try simp only [Act.put, sm]
      refine tkL 6 rfl ?_
      try simp only [Act.put, sm]
      refine tkL 7 rfl ?_
      try simp only [Act.put, sm]
      refine tkL 8 rfl ?_
      try simp only [Act.put, sm]
      refine tkL 9 rfl ?_
      try simp only [Act.put, sm]
      refine tkL 12 rfl ?_
      try simp only [Act.put, sm]
      refine tkL 13 rfl ?_
      try simp only [Act.put, sm]
      refine tkL 14 rfl ?_
      try simp only [Act.put, sm]
      refine wpAnyL_ready (rs := [0, 10]) (by kernel_rfl) (by simp) ?_
      refine AllReadyL.cons (o := _) rfl (fun K hK => ?_) (AllReadyL.cons (o := _) rfl (fun K hK => ?_) AllReadyL.nil)
      · clear hHeld
        go_simp
        have K1 : Hid (Kp wB (wB.drew.alloc (Obj.cells #[] 30)) none) := Lib.hid (K0.out.alloc _)
        have HO1 : Hid ((wB.drew.alloc (Obj.cells #[] 30)).ownsRow wB.heap.size 30 4 (.slice (some ⟨wB.heap.size, 0, none⟩) 0 0) 0 []) := Lib.hid (by have h := World.ownsRow_made (e := 30) (size := 4) wB.drew #[] 0 K0.out.size (by unfold maxLen; omega) rfl; simpa using h)
        try go_wp2_with fail
        refine hK.out _ _ ?_ (fun hHeld => ?_)
        · exact ⟨hcell (blk HBB.out K1.out) 0 rfl, hcell (blk HBB.out K1.out) 1 rfl, hcell (blk HBB.out K1.out) 2 rfl, trivial⟩
        clear hK K
        try simp only [Act.put, sm]
        refine wpAnyL_ready (rs := [4, 10]) (by kernel_rfl) (by simp) ?_
        refine AllReadyL.cons (o := _) rfl (fun K hK => ?_) (AllReadyL.cons (o := _) rfl (fun K hK => ?_) AllReadyL.nil)
        · clear hHeld
          refine step_app (f := dtC) rfl (.tmp 34) (.tmp 37) wB.heap.size 27 30 rfl i0 _ 4 48 (by kernel_rfl) hi hz0 hz1 hz2 rfl (by omega) (fun _ => rfl) dt_one _ _ _ rfl HO1.out _ tk rfl (HTK.out _ _ _ K1.out) (by have := HLL.out; unfold maxLen; (try simp only [List.length_cons, List.length_nil]); omega) (by have := HLL.out; (try simp only [List.length_cons, List.length_nil]); omega) K1.out.size ?_
          intro v2 wv2 ho hg hbb
          obtain ⟨ea2, ec2, rfl⟩ := own_slice ho
          have HO2 : Hid (wv2.ownsRow wB.heap.size 30 4 (.slice ea2 tk.length ec2) tk.length (tk.flatMap dtC)) := Lib.hid (by simpa using ho)
          have K2 : Hid (Kp wB wv2 none) := Lib.hid (Kp.row K1.out hg (fun q hq => (HO1.out.lt q hq).1))
          clear ho hg hbb
          try simp only [Nat.zero_add]
          try go_wp2_with fail
          refine hK.out _ _ ?_ (fun hHeld => ?_)
          · exact ⟨hcell (blk HBB.out K2.out) 0 rfl, hcell (blk HBB.out K2.out) 1 rfl, hcell (blk HBB.out K2.out) 2 rfl, trivial⟩
          clear hK K
          try simp only [Act.put, sm]
          refine wpAnyL_ready (rs := [10]) (by kernel_rfl) (by simp) ?_
          refine AllReadyL.cons (o := _) rfl (fun K hK => ?_) AllReadyL.nil
          clear hHeld
          go_simp
          have K3 : Hid (Kp wB (wv2.alloc (Obj.cells #[.int .i64 rk, .slice ea j ec, .int .i64 rr, .bool c] 30)) none) := Lib.hid (K2.out.alloc _)
          have HW3 : Hid ((wv2.alloc (Obj.cells #[.int .i64 rk, .slice ea j ec, .int .i64 rr, .bool c] 30)).heap[wv2.heap.size]? = some (Obj.cells #[.int .i64 rk, .slice ea j ec, .int .i64 rr, .bool c] 30 (0, 0))) := Lib.hid (by have h := heap_alloc_new wv2 (Obj.cells #[.int .i64 rk, .slice ea j ec, .int .i64 rr, .bool c] 30); simpa using h)
          have HO3 := Lib.hid (own_keep HO2.out ((Kp.refl wv2 none).alloc (Obj.cells #[.int .i64 rk, .slice ea j ec, .int .i64 rr, .bool c] 30)))
          try go_wp2_with fail
          refine hK.out _ _ ?_ (fun hHeld => ?_)
          · exact ⟨hcell (blk HBB.out K3.out) 0 rfl, hcell (blk HBB.out K3.out) 1 rfl, hcell (blk HBB.out K3.out) 2 rfl, trivial⟩
          clear hK K
          try simp only [Act.put, sm]
          refine wpAnyL_ready (rs := [11]) (by kernel_rfl) (by simp) ?_
          refine AllReadyL.cons (o := _) rfl (fun K hK => ?_) AllReadyL.nil
          clear hHeld
          refine step_app (f := dtC) rfl (.tmp 38) (.tmp 44) wB.heap.size 27 30 rfl i0 _ 4 48 (by kernel_rfl) hi hz0 hz1 hz2 rfl (by omega) (fun _ => rfl) dt_one _ _ _ rfl HO3.out _ [(⟨⟨⟨rk, res.take j, rr⟩, c⟩, ea, ec⟩ : DT)] rfl (dt_lies HW3.out HJE.out) (by have := HLL.out; unfold maxLen; (try simp only [List.length_cons, List.length_nil]); omega) (by have := HLL.out; (try simp only [List.length_cons, List.length_nil]); omega) K3.out.size ?_
          intro v4 wv4 ho hg hbb
          obtain ⟨ea4, ec4, rfl⟩ := own_slice ho
          have HO4 := Lib.hid ho
          have K4 : Hid (Kp wB wv4 none) := Lib.hid (Kp.row K3.out hg (fun q hq => (HO3.out.lt q hq).1))
          clear ho hg hbb
          try go_wp2_with fail
          refine hK.out _ _ ?_ (fun hHeld => ?_)
          · exact ⟨hcell (blk HBB.out K4.out) 0 rfl, hcell (blk HBB.out K4.out) 1 rfl, hcell (blk HBB.out K4.out) 2 rfl, trivial⟩
          clear hK K
          try simp only [Act.put, sm]
          refine wpAnyL_ready (rs := [15]) (by kernel_rfl) (by simp) ?_
          refine AllReadyL.cons (o := _) rfl (fun K hK => ?_) AllReadyL.nil
          clear hHeld
          refine step_app (f := dtC) rfl (.tmp 45) (.tmp 48) wB.heap.size 27 30 rfl i0 _ 4 48 (by kernel_rfl) hi hz0 hz1 hz2 rfl (by omega) (fun _ => rfl) dt_one _ _ _ rfl HO4.out _ td rfl (HDR.out _ _ _ K4.out) (by have := HLL.out; unfold maxLen; (try simp only [List.length_cons, List.length_nil]); omega) (by have := HLL.out; (try simp only [List.length_cons, List.length_nil]); omega) K4.out.size ?_
          intro v5 wv5 ho hg hbb
          obtain ⟨ea5, ec5, rfl⟩ := own_slice ho
          have HO5 := Lib.hid ho
          have K5 : Hid (Kp wB wv5 none) := Lib.hid (Kp.row K4.out hg (fun q hq => (HO4.out.lt q hq).1))
          clear ho hg hbb
          try go_wp2_with fail
          refine hK.out _ _ ?_ (fun hHeld => ?_)
          · exact ⟨hcell (blk HBB.out K5.out) 0 rfl, hcell (blk HBB.out K5.out) 1 rfl, hcell (blk HBB.out K5.out) 2 rfl, trivial⟩
          clear hK K
          try simp only [Act.put, sm]
          refine wpAnyL_ready (rs := [16]) (by kernel_rfl) (by simp) ?_
          refine AllReadyL.last (o := _) rfl (fun K hK => ?_)
          clear hHeld
          go_simp
          try go_wp2_with fail
          refine hK.out _ _ ?_
          clear hK K
          try simp only [Act.put, sm]
          refine wpAnyL_done (by kernel_rfl) ?_ _
          go_wp2_with fail
          go_meet
          exact OddIs.mk2 (by have := HLT.out; first | omega | (simp; omega)) (by have := HLT.out; first | omega | (simp; omega)) (by have := HLT.out; simp; omega) HO5.out (by simp) K5.out
        · clear hHeld
          go_simp
          have K2 : Hid (Kp wB ((wB.drew.alloc (Obj.cells #[] 30)).alloc (Obj.cells #[.int .i64 rk, .slice ea j ec, .int .i64 rr, .bool c] 30)) none) := Lib.hid (K1.out.alloc _)
          have HW2 : Hid (((wB.drew.alloc (Obj.cells #[] 30)).alloc (Obj.cells #[.int .i64 rk, .slice ea j ec, .int .i64 rr, .bool c] 30)).heap[wB.heap.size + 1]? = some (Obj.cells #[.int .i64 rk, .slice ea j ec, .int .i64 rr, .bool c] 30 (0, 0))) := Lib.hid (by have h := heap_alloc_new (wB.drew.alloc (Obj.cells #[] 30)) (Obj.cells #[.int .i64 rk, .slice ea j ec, .int .i64 rr, .bool c] 30); simpa using h)
          have HO2 := Lib.hid (own_keep HO1.out ((Kp.refl (wB.drew.alloc (Obj.cells #[] 30)) none).alloc (Obj.cells #[.int .i64 rk, .slice ea j ec, .int .i64 rr, .bool c] 30)))
          have HNE : Hid (wB.heap.size ≠ wB.heap.size + 1) := Lib.hid (by have := (HO1.out.lt _ rfl).2; first | omega | (simp at this; omega))
          try go_wp2_with fail
          refine hK.out _ _ ?_ (fun hHeld => ?_)
          · exact ⟨hcell (blk HBB.out K2.out) 0 rfl, hcell (blk HBB.out K2.out) 1 rfl, hcell (blk HBB.out K2.out) 2 rfl, trivial⟩
          clear hK K
          try simp only [Act.put, sm]
          refine wpAnyL_ready (rs := [4]) (by kernel_rfl) (by simp) ?_
          refine AllReadyL.cons (o := _) rfl (fun K hK => ?_) AllReadyL.nil
          clear hHeld
          refine step_app (f := dtC) rfl (.tmp 34) (.tmp 37) wB.heap.size 27 30 rfl i0 _ 4 48 (by kernel_rfl) hi hz0 hz1 hz2 rfl (by omega) (fun _ => rfl) dt_one _ _ _ rfl HO2.out _ tk rfl (HTK.out _ _ _ K2.out) (by have := HLL.out; unfold maxLen; (try simp only [List.length_cons, List.length_nil]); omega) (by have := HLL.out; (try simp only [List.length_cons, List.length_nil]); omega) K2.out.size ?_
          intro v3 wv3 ho hg hbb
          obtain ⟨ea3, ec3, rfl⟩ := own_slice ho
          have HO3 : Hid (wv3.ownsRow wB.heap.size 30 4 (.slice ea3 tk.length ec3) tk.length (tk.flatMap dtC)) := Lib.hid (by simpa using ho)
          have K3 : Hid (Kp wB wv3 none) := Lib.hid (Kp.row K2.out hg (fun q hq => (HO2.out.lt q hq).1))
          have HW3 := Lib.hid (res_kept HW2.out hg (fun q hq => by have h1 : wB.heap.size = q := Option.some.inj hq; have := HNE.out; omega))
          clear ho hg hbb
          try simp only [Nat.zero_add]
          try go_wp2_with fail
          refine hK.out _ _ ?_ (fun hHeld => ?_)
          · exact ⟨hcell (blk HBB.out K3.out) 0 rfl, hcell (blk HBB.out K3.out) 1 rfl, hcell (blk HBB.out K3.out) 2 rfl, trivial⟩
          clear hK K
          try simp only [Act.put, sm]
          refine wpAnyL_ready (rs := [11]) (by kernel_rfl) (by simp) ?_
          refine AllReadyL.cons (o := _) rfl (fun K hK => ?_) AllReadyL.nil
          clear hHeld
          refine step_app (f := dtC) rfl (.tmp 38) (.tmp 44) wB.heap.size 27 30 rfl i0 _ 4 48 (by kernel_rfl) hi hz0 hz1 hz2 rfl (by omega) (fun _ => rfl) dt_one _ _ _ rfl HO3.out _ [(⟨⟨⟨rk, res.take j, rr⟩, c⟩, ea, ec⟩ : DT)] rfl (dt_lies HW3.out HJE.out) (by have := HLL.out; unfold maxLen; (try simp only [List.length_cons, List.length_nil]); omega) (by have := HLL.out; (try simp only [List.length_cons, List.length_nil]); omega) K3.out.size ?_
          intro v4 wv4 ho hg hbb
          obtain ⟨ea4, ec4, rfl⟩ := own_slice ho
          have HO4 := Lib.hid ho
          have K4 : Hid (Kp wB wv4 none) := Lib.hid (Kp.row K3.out hg (fun q hq => (HO3.out.lt q hq).1))
          clear ho hg hbb
          try go_wp2_with fail
          refine hK.out _ _ ?_ (fun hHeld => ?_)
          · exact ⟨hcell (blk HBB.out K4.out) 0 rfl, hcell (blk HBB.out K4.out) 1 rfl, hcell (blk HBB.out K4.out) 2 rfl, trivial⟩
          clear hK K
          try simp only [Act.put, sm]
          refine wpAnyL_ready (rs := [15]) (by kernel_rfl) (by simp) ?_
          refine AllReadyL.cons (o := _) rfl (fun K hK => ?_) AllReadyL.nil
          clear hHeld
          refine step_app (f := dtC) rfl (.tmp 45) (.tmp 48) wB.heap.size 27 30 rfl i0 _ 4 48 (by kernel_rfl) hi hz0 hz1 hz2 rfl (by omega) (fun _ => rfl) dt_one _ _ _ rfl HO4.out _ td rfl (HDR.out _ _ _ K4.out) (by have := HLL.out; unfold maxLen; (try simp only [List.length_cons, List.length_nil]); omega) (by have := HLL.out; (try simp only [List.length_cons, List.length_nil]); omega) K4.out.size ?_
          intro v5 wv5 ho hg hbb
          obtain ⟨ea5, ec5, rfl⟩ := own_slice ho
          have HO5 := Lib.hid ho
          have K5 : Hid (Kp wB wv5 none) := Lib.hid (Kp.row K4.out hg (fun q hq => (HO4.out.lt q hq).1))
          clear ho hg hbb
          try go_wp2_with fail
          refine hK.out _ _ ?_ (fun hHeld => ?_)
          · exact ⟨hcell (blk HBB.out K5.out) 0 rfl, hcell (blk HBB.out K5.out) 1 rfl, hcell (blk HBB.out K5.out) 2 rfl, trivial⟩
          clear hK K
          try simp only [Act.put, sm]
          refine wpAnyL_ready (rs := [16]) (by kernel_rfl) (by simp) ?_
          refine AllReadyL.last (o := _) rfl (fun K hK => ?_)
          clear hHeld
          go_simp
          try go_wp2_with fail
          refine hK.out _ _ ?_
          clear hK K
          try simp only [Act.put, sm]
          refine wpAnyL_done (by kernel_rfl) ?_ _
          go_wp2_with fail
          go_meet
          exact OddIs.mk2 (by have := HLT.out; first | omega | (simp; omega)) (by have := HLT.out; first | omega | (simp; omega)) (by have := HLT.out; simp; omega) HO5.out (by simp) K5.out
      · clear hHeld
        go_simp
        have K1 : Hid (Kp wB (wB.drew.alloc (Obj.cells #[.int .i64 rk, .slice ea j ec, .int .i64 rr, .bool c] 30)) none) := Lib.hid (K0.out.alloc _)
        have HW1 : Hid ((wB.drew.alloc (Obj.cells #[.int .i64 rk, .slice ea j ec, .int .i64 rr, .bool c] 30)).heap[wB.heap.size]? = some (Obj.cells #[.int .i64 rk, .slice ea j ec, .int .i64 rr, .bool c] 30 (0, 0))) := Lib.hid (by have h := heap_alloc_new wB.drew (Obj.cells #[.int .i64 rk, .slice ea j ec, .int .i64 rr, .bool c] 30); simpa using h)
        try go_wp2_with fail
        refine hK.out _ _ ?_ (fun hHeld => ?_)
        · exact ⟨hcell (blk HBB.out K1.out) 0 rfl, hcell (blk HBB.out K1.out) 1 rfl, hcell (blk HBB.out K1.out) 2 rfl, trivial⟩
        clear hK K
        try simp only [Act.put, sm]
        refine wpAnyL_ready (rs := [0]) (by kernel_rfl) (by simp) ?_
        refine AllReadyL.cons (o := _) rfl (fun K hK => ?_) AllReadyL.nil
        clear hHeld
        go_simp
        have K2 : Hid (Kp wB ((wB.drew.alloc (Obj.cells #[.int .i64 rk, .slice ea j ec, .int .i64 rr, .bool c] 30)).alloc (Obj.cells #[] 30)) none) := Lib.hid (K1.out.alloc _)
        have HO2 : Hid (((wB.drew.alloc (Obj.cells #[.int .i64 rk, .slice ea j ec, .int .i64 rr, .bool c] 30)).alloc (Obj.cells #[] 30)).ownsRow wB.heap.size 30 4 (.slice (some ⟨wB.heap.size + 1, 0, none⟩) 0 0) 0 []) := Lib.hid (by have h := World.ownsRow_made (e := 30) (size := 4) (wB.drew.alloc (Obj.cells #[.int .i64 rk, .slice ea j ec, .int .i64 rr, .bool c] 30)) #[] 0 K1.out.size (by unfold maxLen; omega) rfl; simpa using h)
        have HW2 : Hid (((wB.drew.alloc (Obj.cells #[.int .i64 rk, .slice ea j ec, .int .i64 rr, .bool c] 30)).alloc (Obj.cells #[] 30)).heap[wB.heap.size]? = _) := Lib.hid (blk HW1.out ((Kp.refl _ none).alloc _))
        have HNE : Hid (wB.heap.size + 1 ≠ wB.heap.size) := Lib.hid (by have := lt_of_block HW1.out; first | omega | (simp at this; omega))
        try go_wp2_with fail
        refine hK.out _ _ ?_ (fun hHeld => ?_)
        · exact ⟨hcell (blk HBB.out K2.out) 0 rfl, hcell (blk HBB.out K2.out) 1 rfl, hcell (blk HBB.out K2.out) 2 rfl, trivial⟩
        clear hK K
        try simp only [Act.put, sm]
        refine wpAnyL_ready (rs := [4]) (by kernel_rfl) (by simp) ?_
        refine AllReadyL.cons (o := _) rfl (fun K hK => ?_) AllReadyL.nil
        clear hHeld
        refine step_app (f := dtC) rfl (.tmp 34) (.tmp 37) wB.heap.size 27 30 rfl i0 _ 4 48 (by kernel_rfl) hi hz0 hz1 hz2 rfl (by omega) (fun _ => rfl) dt_one _ _ _ rfl HO2.out _ tk rfl (HTK.out _ _ _ K2.out) (by have := HLL.out; unfold maxLen; (try simp only [List.length_cons, List.length_nil]); omega) (by have := HLL.out; (try simp only [List.length_cons, List.length_nil]); omega) K2.out.size ?_
        intro v3 wv3 ho hg hbb
        obtain ⟨ea3, ec3, rfl⟩ := own_slice ho
        have HO3 : Hid (wv3.ownsRow wB.heap.size 30 4 (.slice ea3 tk.length ec3) tk.length (tk.flatMap dtC)) := Lib.hid (by simpa using ho)
        have K3 : Hid (Kp wB wv3 none) := Lib.hid (Kp.row K2.out hg (fun q hq => (HO2.out.lt q hq).1))
        have HW3 := Lib.hid (res_kept HW2.out hg (fun q hq => by have h1 : wB.heap.size + 1 = q := Option.some.inj hq; have := HNE.out; omega))
        clear ho hg hbb
        try simp only [Nat.zero_add]
        try go_wp2_with fail
        refine hK.out _ _ ?_ (fun hHeld => ?_)
        · exact ⟨hcell (blk HBB.out K3.out) 0 rfl, hcell (blk HBB.out K3.out) 1 rfl, hcell (blk HBB.out K3.out) 2 rfl, trivial⟩
        clear hK K
        try simp only [Act.put, sm]
        refine wpAnyL_ready (rs := [11]) (by kernel_rfl) (by simp) ?_
        refine AllReadyL.cons (o := _) rfl (fun K hK => ?_) AllReadyL.nil
        clear hHeld
        refine step_app (f := dtC) rfl (.tmp 38) (.tmp 44) wB.heap.size 27 30 rfl i0 _ 4 48 (by kernel_rfl) hi hz0 hz1 hz2 rfl (by omega) (fun _ => rfl) dt_one _ _ _ rfl HO3.out _ [(⟨⟨⟨rk, res.take j, rr⟩, c⟩, ea, ec⟩ : DT)] rfl (dt_lies HW3.out HJE.out) (by have := HLL.out; unfold maxLen; (try simp only [List.length_cons, List.length_nil]); omega) (by have := HLL.out; (try simp only [List.length_cons, List.length_nil]); omega) K3.out.size ?_
        intro v4 wv4 ho hg hbb
        obtain ⟨ea4, ec4, rfl⟩ := own_slice ho
        have HO4 := Lib.hid ho
        have K4 : Hid (Kp wB wv4 none) := Lib.hid (Kp.row K3.out hg (fun q hq => (HO3.out.lt q hq).1))
        clear ho hg hbb
        try go_wp2_with fail
        refine hK.out _ _ ?_ (fun hHeld => ?_)
        · exact ⟨hcell (blk HBB.out K4.out) 0 rfl, hcell (blk HBB.out K4.out) 1 rfl, hcell (blk HBB.out K4.out) 2 rfl, trivial⟩
        clear hK K
        try simp only [Act.put, sm]
        refine wpAnyL_ready (rs := [15]) (by kernel_rfl) (by simp) ?_
        refine AllReadyL.cons (o := _) rfl (fun K hK => ?_) AllReadyL.nil
        clear hHeld
        refine step_app (f := dtC) rfl (.tmp 45) (.tmp 48) wB.heap.size 27 30 rfl i0 _ 4 48 (by kernel_rfl) hi hz0 hz1 hz2 rfl (by omega) (fun _ => rfl) dt_one _ _ _ rfl HO4.out _ td rfl (HDR.out _ _ _ K4.out) (by have := HLL.out; unfold maxLen; (try simp only [List.length_cons, List.length_nil]); omega) (by have := HLL.out; (try simp only [List.length_cons, List.length_nil]); omega) K4.out.size ?_
        intro v5 wv5 ho hg hbb
        obtain ⟨ea5, ec5, rfl⟩ := own_slice ho
        have HO5 := Lib.hid ho
        have K5 : Hid (Kp wB wv5 none) := Lib.hid (Kp.row K4.out hg (fun q hq => (HO4.out.lt q hq).1))
        clear ho hg hbb
        try go_wp2_with fail
        refine hK.out _ _ ?_ (fun hHeld => ?_)
        · exact ⟨hcell (blk HBB.out K5.out) 0 rfl, hcell (blk HBB.out K5.out) 1 rfl, hcell (blk HBB.out K5.out) 2 rfl, trivial⟩
        clear hK K
        try simp only [Act.put, sm]
        refine wpAnyL_ready (rs := [16]) (by kernel_rfl) (by simp) ?_
        refine AllReadyL.last (o := _) rfl (fun K hK => ?_)
        clear hHeld
        go_simp
        try go_wp2_with fail
        refine hK.out _ _ ?_
        clear hK K
        try simp only [Act.put, sm]
        refine wpAnyL_done (by kernel_rfl) ?_ _
        go_wp2_with fail
        go_meet
        exact OddIs.mk2 (by have := HLT.out; first | omega | (simp; omega)) (by have := HLT.out; first | omega | (simp; omega)) (by have := HLT.out; simp; omega) HO5.out (by simp) K5.out
    · obtain ⟨b, off, rfl, _, _, _⟩ := HT1.out 0 (by rw [HN.out]; exact hpos)
      have HTK : Hid (∀ V, Kp wB V none → IsList 4 dtC V (.slice (some ⟨b, off, none⟩) k cap) tk) := Lib.hid (fun V kv => by
        have h := ((lies_take HT1.out k (by rw [HN.out]; exact hkn)).keep kv).list
        rw [HTKE.out, HLT.out.1] at h
        exact h)
      by_cases hck : cap = k
      · have hkn2 : k = n := by omega
        subst hkn2
        subst hck
        have HDR : Hid (∀ V ao cap, Kp wB V none → IsList 4 dtC V (.slice ao 0 cap) td) := Lib.hid (fun V ao cap _ => .inl ⟨ao, cap, rfl, List.length_eq_zero_iff.1 (by have := HLT.out; omega)⟩)
        have K0 : Hid (Kp wB wB.drew none) := Lib.hid (Kp.refl wB none).drew
        refine wp_region_last (fun V => V.cell? ⟨w.heap.size, 0, none⟩ = some (.int .i64 rk) ∧ V.cell? ⟨w.heap.size, 1, none⟩ = some (.slice ea j ec) ∧ V.cell? ⟨w.heap.size, 2, none⟩ = some (.int .i64 rr) ∧ True) 16 (by kernel_rfl) ?_ (fun hHeld => ?_)
        · exact ⟨hcell (blk HBB.out K0.out) 0 rfl, hcell (blk HBB.out K0.out) 1 rfl, hcell (blk HBB.out K0.out) 2 rfl, trivial⟩
        refine tkL 1 rfl ?_
        try simp only [Act.put, sm]
        refine tkL 2 rfl ?_
        try simp only [Act.put, sm]
        refine tkL 3 rfl ?_
        try simp only [Act.put, sm]
        refine tkL 5 rfl ?_
        try simp only [Act.put, sm]
        refine tkL 6 rfl ?_
        try simp only [Act.put, sm]
        refine tkL 7 rfl ?_
        try simp only [Act.put, sm]
        refine tkL 8 rfl ?_
        try simp only [Act.put, sm]
        refine tkL 9 rfl ?_
        try simp only [Act.put, sm]
        refine tkL 12 rfl ?_
        try simp only [Act.put, sm]
        refine tkL 13 rfl ?_
        try simp only [Act.put, sm]
        refine tkL 14 rfl ?_
        try simp only [Act.put, sm]
        refine wpAnyL_ready (rs := [0, 10]) (by kernel_rfl) (by simp) ?_
        refine AllReadyL.cons (o := _) rfl (fun K hK => ?_) (AllReadyL.cons (o := _) rfl (fun K hK => ?_) AllReadyL.nil)
        · clear hHeld
          go_simp
          have K1 : Hid (Kp wB (wB.drew.alloc (Obj.cells #[] 30)) none) := Lib.hid (K0.out.alloc _)
          have HO1 : Hid ((wB.drew.alloc (Obj.cells #[] 30)).ownsRow wB.heap.size 30 4 (.slice (some ⟨wB.heap.size, 0, none⟩) 0 0) 0 []) := Lib.hid (by have h := World.ownsRow_made (e := 30) (size := 4) wB.drew #[] 0 K0.out.size (by unfold maxLen; omega) rfl; simpa using h)
          try go_wp2_with fail
          refine hK.out _ _ ?_ (fun hHeld => ?_)
          · exact ⟨hcell (blk HBB.out K1.out) 0 rfl, hcell (blk HBB.out K1.out) 1 rfl, hcell (blk HBB.out K1.out) 2 rfl, trivial⟩
          clear hK K
          try simp only [Act.put, sm]
          refine wpAnyL_ready (rs := [4, 10]) (by kernel_rfl) (by simp) ?_
          refine AllReadyL.cons (o := _) rfl (fun K hK => ?_) (AllReadyL.cons (o := _) rfl (fun K hK => ?_) AllReadyL.nil)
          · clear hHeld
            refine step_app (f := dtC) rfl (.tmp 34) (.tmp 37) wB.heap.size 27 30 rfl i0 _ 4 48 (by kernel_rfl) hi hz0 hz1 hz2 rfl (by omega) (fun _ => rfl) dt_one _ _ _ rfl HO1.out _ tk rfl (HTK.out _ K1.out) (by have := HLL.out; unfold maxLen; (try simp only [List.length_cons, List.length_nil]); omega) (by have := HLL.out; (try simp only [List.length_cons, List.length_nil]); omega) K1.out.size ?_
            intro v2 wv2 ho hg hbb
            obtain ⟨ea2, ec2, rfl⟩ := own_slice ho
            have HO2 : Hid (wv2.ownsRow wB.heap.size 30 4 (.slice ea2 tk.length ec2) tk.length (tk.flatMap dtC)) := Lib.hid (by simpa using ho)
            have K2 : Hid (Kp wB wv2 none) := Lib.hid (Kp.row K1.out hg (fun q hq => (HO1.out.lt q hq).1))
            clear ho hg hbb
            try simp only [Nat.zero_add]
            try go_wp2_with fail
            refine hK.out _ _ ?_ (fun hHeld => ?_)
            · exact ⟨hcell (blk HBB.out K2.out) 0 rfl, hcell (blk HBB.out K2.out) 1 rfl, hcell (blk HBB.out K2.out) 2 rfl, trivial⟩
            clear hK K
            try simp only [Act.put, sm]
            refine wpAnyL_ready (rs := [10]) (by kernel_rfl) (by simp) ?_
            refine AllReadyL.cons (o := _) rfl (fun K hK => ?_) AllReadyL.nil
            clear hHeld
            go_simp
            have K3 : Hid (Kp wB (wv2.alloc (Obj.cells #[.int .i64 rk, .slice ea j ec, .int .i64 rr, .bool c] 30)) none) := Lib.hid (K2.out.alloc _)
            have HW3 : Hid ((wv2.alloc (Obj.cells #[.int .i64 rk, .slice ea j ec, .int .i64 rr, .bool c] 30)).heap[wv2.heap.size]? = some (Obj.cells #[.int .i64 rk, .slice ea j ec, .int .i64 rr, .bool c] 30 (0, 0))) := Lib.hid (by have h := heap_alloc_new wv2 (Obj.cells #[.int .i64 rk, .slice ea j ec, .int .i64 rr, .bool c] 30); simpa using h)
            have HO3 := Lib.hid (own_keep HO2.out ((Kp.refl wv2 none).alloc (Obj.cells #[.int .i64 rk, .slice ea j ec, .int .i64 rr, .bool c] 30)))
            try go_wp2_with fail
            refine hK.out _ _ ?_ (fun hHeld => ?_)
            · exact ⟨hcell (blk HBB.out K3.out) 0 rfl, hcell (blk HBB.out K3.out) 1 rfl, hcell (blk HBB.out K3.out) 2 rfl, trivial⟩
            clear hK K
            try simp only [Act.put, sm]
            refine wpAnyL_ready (rs := [11]) (by kernel_rfl) (by simp) ?_
            refine AllReadyL.cons (o := _) rfl (fun K hK => ?_) AllReadyL.nil
            clear hHeld
            refine step_app (f := dtC) rfl (.tmp 38) (.tmp 44) wB.heap.size 27 30 rfl i0 _ 4 48 (by kernel_rfl) hi hz0 hz1 hz2 rfl (by omega) (fun _ => rfl) dt_one _ _ _ rfl HO3.out _ [(⟨⟨⟨rk, res.take j, rr⟩, c⟩, ea, ec⟩ : DT)] rfl (dt_lies HW3.out HJE.out) (by have := HLL.out; unfold maxLen; (try simp only [List.length_cons, List.length_nil]); omega) (by have := HLL.out; (try simp only [List.length_cons, List.length_nil]); omega) K3.out.size ?_
            intro v4 wv4 ho hg hbb
            obtain ⟨ea4, ec4, rfl⟩ := own_slice ho
            have HO4 := Lib.hid ho
            have K4 : Hid (Kp wB wv4 none) := Lib.hid (Kp.row K3.out hg (fun q hq => (HO3.out.lt q hq).1))
            clear ho hg hbb
            try go_wp2_with fail
            refine hK.out _ _ ?_ (fun hHeld => ?_)
            · exact ⟨hcell (blk HBB.out K4.out) 0 rfl, hcell (blk HBB.out K4.out) 1 rfl, hcell (blk HBB.out K4.out) 2 rfl, trivial⟩
            clear hK K
            try simp only [Act.put, sm]
            refine wpAnyL_ready (rs := [15]) (by kernel_rfl) (by simp) ?_
            refine AllReadyL.cons (o := _) rfl (fun K hK => ?_) AllReadyL.nil
            clear hHeld
            refine step_app (f := dtC) rfl (.tmp 45) (.tmp 48) wB.heap.size 27 30 rfl i0 _ 4 48 (by kernel_rfl) hi hz0 hz1 hz2 rfl (by omega) (fun _ => rfl) dt_one _ _ _ rfl HO4.out _ td rfl (HDR.out _ _ _ K4.out) (by have := HLL.out; unfold maxLen; (try simp only [List.length_cons, List.length_nil]); omega) (by have := HLL.out; (try simp only [List.length_cons, List.length_nil]); omega) K4.out.size ?_
            intro v5 wv5 ho hg hbb
            obtain ⟨ea5, ec5, rfl⟩ := own_slice ho
            have HO5 := Lib.hid ho
            have K5 : Hid (Kp wB wv5 none) := Lib.hid (Kp.row K4.out hg (fun q hq => (HO4.out.lt q hq).1))
            clear ho hg hbb
            try go_wp2_with fail
            refine hK.out _ _ ?_ (fun hHeld => ?_)
            · exact ⟨hcell (blk HBB.out K5.out) 0 rfl, hcell (blk HBB.out K5.out) 1 rfl, hcell (blk HBB.out K5.out) 2 rfl, trivial⟩
            clear hK K
            try simp only [Act.put, sm]
            refine wpAnyL_ready (rs := [16]) (by kernel_rfl) (by simp) ?_
            refine AllReadyL.last (o := _) rfl (fun K hK => ?_)
            clear hHeld
            go_simp
            try go_wp2_with fail
            refine hK.out _ _ ?_
            clear hK K
            try simp only [Act.put, sm]
            refine wpAnyL_done (by kernel_rfl) ?_ _
            go_wp2_with fail
            go_meet
            exact OddIs.mk2 (by have := HLT.out; first | omega | (simp; omega)) (by have := HLT.out; first | omega | (simp; omega)) (by have := HLT.out; simp; omega) HO5.out (by simp) K5.out
          · clear hHeld
            go_simp
            have K2 : Hid (Kp wB ((wB.drew.alloc (Obj.cells #[] 30)).alloc (Obj.cells #[.int .i64 rk, .slice ea j ec, .int .i64 rr, .bool c] 30)) none) := Lib.hid (K1.out.alloc _)
            have HW2 : Hid (((wB.drew.alloc (Obj.cells #[] 30)).alloc (Obj.cells #[.int .i64 rk, .slice ea j ec, .int .i64 rr, .bool c] 30)).heap[wB.heap.size + 1]? = some (Obj.cells #[.int .i64 rk, .slice ea j ec, .int .i64 rr, .bool c] 30 (0, 0))) := Lib.hid (by have h := heap_alloc_new (wB.drew.alloc (Obj.cells #[] 30)) (Obj.cells #[.int .i64 rk, .slice ea j ec, .int .i64 rr, .bool c] 30); simpa using h)
            have HO2 := Lib.hid (own_keep HO1.out ((Kp.refl (wB.drew.alloc (Obj.cells #[] 30)) none).alloc (Obj.cells #[.int .i64 rk, .slice ea j ec, .int .i64 rr, .bool c] 30)))
            have HNE : Hid (wB.heap.size ≠ wB.heap.size + 1) := Lib.hid (by have := (HO1.out.lt _ rfl).2; first | omega | (simp at this; omega))
            try go_wp2_with fail
            refine hK.out _ _ ?_ (fun hHeld => ?_)
            · exact ⟨hcell (blk HBB.out K2.out) 0 rfl, hcell (blk HBB.out K2.out) 1 rfl, hcell (blk HBB.out K2.out) 2 rfl, trivial⟩
            clear hK K
            try simp only [Act.put, sm]
            refine wpAnyL_ready (rs := [4]) (by kernel_rfl) (by simp) ?_
            refine AllReadyL.cons (o := _) rfl (fun K hK => ?_) AllReadyL.nil
            clear hHeld
            refine step_app (f := dtC) rfl (.tmp 34) (.tmp 37) wB.heap.size 27 30 rfl i0 _ 4 48 (by kernel_rfl) hi hz0 hz1 hz2 rfl (by omega) (fun _ => rfl) dt_one _ _ _ rfl HO2.out _ tk rfl (HTK.out _ K2.out) (by have := HLL.out; unfold maxLen; (try simp only [List.length_cons, List.length_nil]); omega) (by have := HLL.out; (try simp only [List.length_cons, List.length_nil]); omega) K2.out.size ?_
            intro v3 wv3 ho hg hbb
            obtain ⟨ea3, ec3, rfl⟩ := own_slice ho
            have HO3 : Hid (wv3.ownsRow wB.heap.size 30 4 (.slice ea3 tk.length ec3) tk.length (tk.flatMap dtC)) := Lib.hid (by simpa using ho)
            have K3 : Hid (Kp wB wv3 none) := Lib.hid (Kp.row K2.out hg (fun q hq => (HO2.out.lt q hq).1))
            have HW3 := Lib.hid (res_kept HW2.out hg (fun q hq => by have h1 : wB.heap.size = q := Option.some.inj hq; have := HNE.out; omega))
            clear ho hg hbb
            try simp only [Nat.zero_add]
            try go_wp2_with fail
            refine hK.out _ _ ?_ (fun hHeld => ?_)
            · exact ⟨hcell (blk HBB.out K3.out) 0 rfl, hcell (blk HBB.out K3.out) 1 rfl, hcell (blk HBB.out K3.out) 2 rfl, trivial⟩
            clear hK K
            try simp only [Act.put, sm]
            refine wpAnyL_ready (rs := [11]) (by kernel_rfl) (by simp) ?_
            refine AllReadyL.cons (o := _) rfl (fun K hK => ?_) AllReadyL.nil
            clear hHeld
            refine step_app (f := dtC) rfl (.tmp 38) (.tmp 44) wB.heap.size 27 30 rfl i0 _ 4 48 (by kernel_rfl) hi hz0 hz1 hz2 rfl (by omega) (fun _ => rfl) dt_one _ _ _ rfl HO3.out _ [(⟨⟨⟨rk, res.take j, rr⟩, c⟩, ea, ec⟩ : DT)] rfl (dt_lies HW3.out HJE.out) (by have := HLL.out; unfold maxLen; (try simp only [List.length_cons, List.length_nil]); omega) (by have := HLL.out; (try simp only [List.length_cons, List.length_nil]); omega) K3.out.size ?_
            intro v4 wv4 ho hg hbb
            obtain ⟨ea4, ec4, rfl⟩ := own_slice ho
            have HO4 := Lib.hid ho
            have K4 : Hid (Kp wB wv4 none) := Lib.hid (Kp.row K3.out hg (fun q hq => (HO3.out.lt q hq).1))
            clear ho hg hbb
            try go_wp2_with fail
            refine hK.out _ _ ?_ (fun hHeld => ?_)
            · exact ⟨hcell (blk HBB.out K4.out) 0 rfl, hcell (blk HBB.out K4.out) 1 rfl, hcell (blk HBB.out K4.out) 2 rfl, trivial⟩
            clear hK K
            try simp only [Act.put, sm]
            refine wpAnyL_ready (rs := [15]) (by kernel_rfl) (by simp) ?_
            refine AllReadyL.cons (o := _) rfl (fun K hK => ?_) AllReadyL.nil
            clear hHeld
            refine step_app (f := dtC) rfl (.tmp 45) (.tmp 48) wB.heap.size 27 30 rfl i0 _ 4 48 (by kernel_rfl) hi hz0 hz1 hz2 rfl (by omega) (fun _ => rfl) dt_one _ _ _ rfl HO4.out _ td rfl (HDR.out _ _ _ K4.out) (by have := HLL.out; unfold maxLen; (try simp only [List.length_cons, List.length_nil]); omega) (by have := HLL.out; (try simp only [List.length_cons, List.length_nil]); omega) K4.out.size ?_
            intro v5 wv5 ho hg hbb
            obtain ⟨ea5, ec5, rfl⟩ := own_slice ho
            have HO5 := Lib.hid ho
            have K5 : Hid (Kp wB wv5 none) := Lib.hid (Kp.row K4.out hg (fun q hq => (HO4.out.lt q hq).1))
            clear ho hg hbb
            try go_wp2_with fail
            refine hK.out _ _ ?_ (fun hHeld => ?_)
            · exact ⟨hcell (blk HBB.out K5.out) 0 rfl, hcell (blk HBB.out K5.out) 1 rfl, hcell (blk HBB.out K5.out) 2 rfl, trivial⟩
            clear hK K
            try simp only [Act.put, sm]
            refine wpAnyL_ready (rs := [16]) (by kernel_rfl) (by simp) ?_
            refine AllReadyL.last (o := _) rfl (fun K hK => ?_)
            clear hHeld
            go_simp
            try go_wp2_with fail
            refine hK.out _ _ ?_
            clear hK K
            try simp only [Act.put, sm]
            refine wpAnyL_done (by kernel_rfl) ?_ _
            go_wp2_with fail
            go_meet
            exact OddIs.mk2 (by have := HLT.out; first | omega | (simp; omega)) (by have := HLT.out; first | omega | (simp; omega)) (by have := HLT.out; simp; omega) HO5.out (by simp) K5.out
        · clear hHeld
          go_simp
          have K1 : Hid (Kp wB (wB.drew.alloc (Obj.cells #[.int .i64 rk, .slice ea j ec, .int .i64 rr, .bool c] 30)) none) := Lib.hid (K0.out.alloc _)
          have HW1 : Hid ((wB.drew.alloc (Obj.cells #[.int .i64 rk, .slice ea j ec, .int .i64 rr, .bool c] 30)).heap[wB.heap.size]? = some (Obj.cells #[.int .i64 rk, .slice ea j ec, .int .i64 rr, .bool c] 30 (0, 0))) := Lib.hid (by have h := heap_alloc_new wB.drew (Obj.cells #[.int .i64 rk, .slice ea j ec, .int .i64 rr, .bool c] 30); simpa using h)
          try go_wp2_with fail
          refine hK.out _ _ ?_ (fun hHeld => ?_)
          · exact ⟨hcell (blk HBB.out K1.out) 0 rfl, hcell (blk HBB.out K1.out) 1 rfl, hcell (blk HBB.out K1.out) 2 rfl, trivial⟩
          clear hK K
          try simp only [Act.put, sm]
          refine wpAnyL_ready (rs := [0]) (by kernel_rfl) (by simp) ?_
          refine AllReadyL.cons (o := _) rfl (fun K hK => ?_) AllReadyL.nil
          clear hHeld
          go_simp
          have K2 : Hid (Kp wB ((wB.drew.alloc (Obj.cells #[.int .i64 rk, .slice ea j ec, .int .i64 rr, .bool c] 30)).alloc (Obj.cells #[] 30)) none) := Lib.hid (K1.out.alloc _)
          have HO2 : Hid (((wB.drew.alloc (Obj.cells #[.int .i64 rk, .slice ea j ec, .int .i64 rr, .bool c] 30)).alloc (Obj.cells #[] 30)).ownsRow wB.heap.size 30 4 (.slice (some ⟨wB.heap.size + 1, 0, none⟩) 0 0) 0 []) := Lib.hid (by have h := World.ownsRow_made (e := 30) (size := 4) (wB.drew.alloc (Obj.cells #[.int .i64 rk, .slice ea j ec, .int .i64 rr, .bool c] 30)) #[] 0 K1.out.size (by unfold maxLen; omega) rfl; simpa using h)
          have HW2 : Hid (((wB.drew.alloc (Obj.cells #[.int .i64 rk, .slice ea j ec, .int .i64 rr, .bool c] 30)).alloc (Obj.cells #[] 30)).heap[wB.heap.size]? = _) := Lib.hid (blk HW1.out ((Kp.refl _ none).alloc _))
          have HNE : Hid (wB.heap.size + 1 ≠ wB.heap.size) := Lib.hid (by have := lt_of_block HW1.out; first | omega | (simp at this; omega))
          try go_wp2_with fail
          refine hK.out _ _ ?_ (fun hHeld => ?_)
          · exact ⟨hcell (blk HBB.out K2.out) 0 rfl, hcell (blk HBB.out K2.out) 1 rfl, hcell (blk HBB.out K2.out) 2 rfl, trivial⟩
          clear hK K
          try simp only [Act.put, sm]
          refine wpAnyL_ready (rs := [4]) (by kernel_rfl) (by simp) ?_
          refine AllReadyL.cons (o := _) rfl (fun K hK => ?_) AllReadyL.nil
          clear hHeld
          refine step_app (f := dtC) rfl (.tmp 34) (.tmp 37) wB.heap.size 27 30 rfl i0 _ 4 48 (by kernel_rfl) hi hz0 hz1 hz2 rfl (by omega) (fun _ => rfl) dt_one _ _ _ rfl HO2.out _ tk rfl (HTK.out _ K2.out) (by have := HLL.out; unfold maxLen; (try simp only [List.length_cons, List.length_nil]); omega) (by have := HLL.out; (try simp only [List.length_cons, List.length_nil]); omega) K2.out.size ?_
          intro v3 wv3 ho hg hbb
          obtain ⟨ea3, ec3, rfl⟩ := own_slice ho
          have HO3 : Hid (wv3.ownsRow wB.heap.size 30 4 (.slice ea3 tk.length ec3) tk.length (tk.flatMap dtC)) := Lib.hid (by simpa using ho)
          have K3 : Hid (Kp wB wv3 none) := Lib.hid (Kp.row K2.out hg (fun q hq => (HO2.out.lt q hq).1))
          have HW3 := Lib.hid (res_kept HW2.out hg (fun q hq => by have h1 : wB.heap.size + 1 = q := Option.some.inj hq; have := HNE.out; omega))
          clear ho hg hbb
          try simp only [Nat.zero_add]
          try go_wp2_with fail
          refine hK.out _ _ ?_ (fun hHeld => ?_)
          · exact ⟨hcell (blk HBB.out K3.out) 0 rfl, hcell (blk HBB.out K3.out) 1 rfl, hcell (blk HBB.out K3.out) 2 rfl, trivial⟩
          clear hK K
          try simp only [Act.put, sm]
          refine wpAnyL_ready (rs := [11]) (by kernel_rfl) (by simp) ?_
          refine AllReadyL.cons (o := _) rfl (fun K hK => ?_) AllReadyL.nil
          clear hHeld
          refine step_app (f := dtC) rfl (.tmp 38) (.tmp 44) wB.heap.size 27 30 rfl i0 _ 4 48 (by kernel_rfl) hi hz0 hz1 hz2 rfl (by omega) (fun _ => rfl) dt_one _ _ _ rfl HO3.out _ [(⟨⟨⟨rk, res.take j, rr⟩, c⟩, ea, ec⟩ : DT)] rfl (dt_lies HW3.out HJE.out) (by have := HLL.out; unfold maxLen; (try simp only [List.length_cons, List.length_nil]); omega) (by have := HLL.out; (try simp only [List.length_cons, List.length_nil]); omega) K3.out.size ?_
          intro v4 wv4 ho hg hbb
          obtain ⟨ea4, ec4, rfl⟩ := own_slice ho
          have HO4 := Lib.hid ho
          have K4 : Hid (Kp wB wv4 none) := Lib.hid (Kp.row K3.out hg (fun q hq => (HO3.out.lt q hq).1))
          clear ho hg hbb
          try go_wp2_with fail
          refine hK.out _ _ ?_ (fun hHeld => ?_)
          · exact ⟨hcell (blk HBB.out K4.out) 0 rfl, hcell (blk HBB.out K4.out) 1 rfl, hcell (blk HBB.out K4.out) 2 rfl, trivial⟩
          clear hK K
          try simp only [Act.put, sm]
          refine wpAnyL_ready (rs := [15]) (by kernel_rfl) (by simp) ?_
          refine AllReadyL.cons (o := _) rfl (fun K hK => ?_) AllReadyL.nil
          clear hHeld
          refine step_app (f := dtC) rfl (.tmp 45) (.tmp 48) wB.heap.size 27 30 rfl i0 _ 4 48 (by kernel_rfl) hi hz0 hz1 hz2 rfl (by omega) (fun _ => rfl) dt_one _ _ _ rfl HO4.out _ td rfl (HDR.out _ _ _ K4.out) (by have := HLL.out; unfold maxLen; (try simp only [List.length_cons, List.length_nil]); omega) (by have := HLL.out; (try simp only [List.length_cons, List.length_nil]); omega) K4.out.size ?_
          intro v5 wv5 ho hg hbb
          obtain ⟨ea5, ec5, rfl⟩ := own_slice ho
          have HO5 := Lib.hid ho
          have K5 : Hid (Kp wB wv5 none) := Lib.hid (Kp.row K4.out hg (fun q hq => (HO4.out.lt q hq).1))
          clear ho hg hbb
          try go_wp2_with fail
          refine hK.out _ _ ?_ (fun hHeld => ?_)
          · exact ⟨hcell (blk HBB.out K5.out) 0 rfl, hcell (blk HBB.out K5.out) 1 rfl, hcell (blk HBB.out K5.out) 2 rfl, trivial⟩
          clear hK K
          try simp only [Act.put, sm]
          refine wpAnyL_ready (rs := [16]) (by kernel_rfl) (by simp) ?_
          refine AllReadyL.last (o := _) rfl (fun K hK => ?_)
          clear hHeld
          go_simp
          try go_wp2_with fail
          refine hK.out _ _ ?_
          clear hK K
          try simp only [Act.put, sm]
          refine wpAnyL_done (by kernel_rfl) ?_ _
          go_wp2_with fail
          go_meet
          exact OddIs.mk2 (by have := HLT.out; first | omega | (simp; omega)) (by have := HLT.out; first | omega | (simp; omega)) (by have := HLT.out; simp; omega) HO5.out (by simp) K5.out
      · have HDR : Hid (∀ V, Kp wB V none → IsList 4 dtC V (.slice (some ⟨b, off + k * 4, none⟩) (n - k) (cap - k)) td) := Lib.hid (fun V kv => by
          have h := ((lies_drop (f := dtC) HT1.out k (by omega) (by rw [HN.out]; exact hkn)).keep kv).list
          rw [HTDE.out, HLT.out.2.1] at h
          exact h)
        have K0 : Hid (Kp wB wB.drew none) := Lib.hid (Kp.refl wB none).drew
        refine wp_region_last (fun V => V.cell? ⟨w.heap.size, 0, none⟩ = some (.int .i64 rk) ∧ V.cell? ⟨w.heap.size, 1, none⟩ = some (.slice ea j ec) ∧ V.cell? ⟨w.heap.size, 2, none⟩ = some (.int .i64 rr) ∧ True) 16 (by kernel_rfl) ?_ (fun hHeld => ?_)
        · exact ⟨hcell (blk HBB.out K0.out) 0 rfl, hcell (blk HBB.out K0.out) 1 rfl, hcell (blk HBB.out K0.out) 2 rfl, trivial⟩
        refine tkL 1 rfl ?_
        try simp only [Act.put, sm]
        refine tkL 2 rfl ?_
        try simp only [Act.put, sm]
        refine tkL 3 rfl ?_
        try simp only [Act.put, sm]
        refine tkL 5 rfl ?_
        try simp only [Act.put, sm]
        refine tkL 6 rfl ?_
        try simp only [Act.put, sm]
        refine tkL 7 rfl ?_
        try simp only [Act.put, sm]
        refine tkL 8 rfl ?_
        try simp only [Act.put, sm]
        refine tkL 9 rfl ?_
        try simp only [Act.put, sm]
        refine tkL 12 rfl ?_
        try simp only [Act.put, sm]
        refine tkL 13 rfl ?_
        try simp only [Act.put, sm]
        refine tkL 14 rfl ?_
        try simp only [Act.put, sm]
        refine wpAnyL_ready (rs := [0, 10]) (by kernel_rfl) (by simp) ?_
        refine AllReadyL.cons (o := _) rfl (fun K hK => ?_) (AllReadyL.cons (o := _) rfl (fun K hK => ?_) AllReadyL.nil)
        · clear hHeld
          go_simp
          have K1 : Hid (Kp wB (wB.drew.alloc (Obj.cells #[] 30)) none) := Lib.hid (K0.out.alloc _)
          have HO1 : Hid ((wB.drew.alloc (Obj.cells #[] 30)).ownsRow wB.heap.size 30 4 (.slice (some ⟨wB.heap.size, 0, none⟩) 0 0) 0 []) := Lib.hid (by have h := World.ownsRow_made (e := 30) (size := 4) wB.drew #[] 0 K0.out.size (by unfold maxLen; omega) rfl; simpa using h)
          try go_wp2_with fail
          refine hK.out _ _ ?_ (fun hHeld => ?_)
          · exact ⟨hcell (blk HBB.out K1.out) 0 rfl, hcell (blk HBB.out K1.out) 1 rfl, hcell (blk HBB.out K1.out) 2 rfl, trivial⟩
          clear hK K
          try simp only [Act.put, sm]
          refine wpAnyL_ready (rs := [4, 10]) (by kernel_rfl) (by simp) ?_
          refine AllReadyL.cons (o := _) rfl (fun K hK => ?_) (AllReadyL.cons (o := _) rfl (fun K hK => ?_) AllReadyL.nil)
          · clear hHeld
            refine step_app (f := dtC) rfl (.tmp 34) (.tmp 37) wB.heap.size 27 30 rfl i0 _ 4 48 (by kernel_rfl) hi hz0 hz1 hz2 rfl (by omega) (fun _ => rfl) dt_one _ _ _ rfl HO1.out _ tk rfl (HTK.out _ K1.out) (by have := HLL.out; unfold maxLen; (try simp only [List.length_cons, List.length_nil]); omega) (by have := HLL.out; (try simp only [List.length_cons, List.length_nil]); omega) K1.out.size ?_
            intro v2 wv2 ho hg hbb
            obtain ⟨ea2, ec2, rfl⟩ := own_slice ho
            have HO2 : Hid (wv2.ownsRow wB.heap.size 30 4 (.slice ea2 tk.length ec2) tk.length (tk.flatMap dtC)) := Lib.hid (by simpa using ho)
            have K2 : Hid (Kp wB wv2 none) := Lib.hid (Kp.row K1.out hg (fun q hq => (HO1.out.lt q hq).1))
            clear ho hg hbb
            try simp only [Nat.zero_add]
            try go_wp2_with fail
            refine hK.out _ _ ?_ (fun hHeld => ?_)
            · exact ⟨hcell (blk HBB.out K2.out) 0 rfl, hcell (blk HBB.out K2.out) 1 rfl, hcell (blk HBB.out K2.out) 2 rfl, trivial⟩
            clear hK K
            try simp only [Act.put, sm]
            refine wpAnyL_ready (rs := [10]) (by kernel_rfl) (by simp) ?_
            refine AllReadyL.cons (o := _) rfl (fun K hK => ?_) AllReadyL.nil
            clear hHeld
            go_simp
            have K3 : Hid (Kp wB (wv2.alloc (Obj.cells #[.int .i64 rk, .slice ea j ec, .int .i64 rr, .bool c] 30)) none) := Lib.hid (K2.out.alloc _)
            have HW3 : Hid ((wv2.alloc (Obj.cells #[.int .i64 rk, .slice ea j ec, .int .i64 rr, .bool c] 30)).heap[wv2.heap.size]? = some (Obj.cells #[.int .i64 rk, .slice ea j ec, .int .i64 rr, .bool c] 30 (0, 0))) := Lib.hid (by have h := heap_alloc_new wv2 (Obj.cells #[.int .i64 rk, .slice ea j ec, .int .i64 rr, .bool c] 30); simpa using h)
            have HO3 := Lib.hid (own_keep HO2.out ((Kp.refl wv2 none).alloc (Obj.cells #[.int .i64 rk, .slice ea j ec, .int .i64 rr, .bool c] 30)))
            try go_wp2_with fail
            refine hK.out _ _ ?_ (fun hHeld => ?_)
            · exact ⟨hcell (blk HBB.out K3.out) 0 rfl, hcell (blk HBB.out K3.out) 1 rfl, hcell (blk HBB.out K3.out) 2 rfl, trivial⟩
            clear hK K
            try simp only [Act.put, sm]
            refine wpAnyL_ready (rs := [11]) (by kernel_rfl) (by simp) ?_
            refine AllReadyL.cons (o := _) rfl (fun K hK => ?_) AllReadyL.nil
            clear hHeld
            refine step_app (f := dtC) rfl (.tmp 38) (.tmp 44) wB.heap.size 27 30 rfl i0 _ 4 48 (by kernel_rfl) hi hz0 hz1 hz2 rfl (by omega) (fun _ => rfl) dt_one _ _ _ rfl HO3.out _ [(⟨⟨⟨rk, res.take j, rr⟩, c⟩, ea, ec⟩ : DT)] rfl (dt_lies HW3.out HJE.out) (by have := HLL.out; unfold maxLen; (try simp only [List.length_cons, List.length_nil]); omega) (by have := HLL.out; (try simp only [List.length_cons, List.length_nil]); omega) K3.out.size ?_
            intro v4 wv4 ho hg hbb
            obtain ⟨ea4, ec4, rfl⟩ := own_slice ho
            have HO4 := Lib.hid ho
            have K4 : Hid (Kp wB wv4 none) := Lib.hid (Kp.row K3.out hg (fun q hq => (HO3.out.lt q hq).1))
            clear ho hg hbb
            try go_wp2_with fail
            refine hK.out _ _ ?_ (fun hHeld => ?_)
            · exact ⟨hcell (blk HBB.out K4.out) 0 rfl, hcell (blk HBB.out K4.out) 1 rfl, hcell (blk HBB.out K4.out) 2 rfl, trivial⟩
            clear hK K
            try simp only [Act.put, sm]
            refine wpAnyL_ready (rs := [15]) (by kernel_rfl) (by simp) ?_
            refine AllReadyL.cons (o := _) rfl (fun K hK => ?_) AllReadyL.nil
            clear hHeld
            refine step_app (f := dtC) rfl (.tmp 45) (.tmp 48) wB.heap.size 27 30 rfl i0 _ 4 48 (by kernel_rfl) hi hz0 hz1 hz2 rfl (by omega) (fun _ => rfl) dt_one _ _ _ rfl HO4.out _ td rfl (HDR.out _ K4.out) (by have := HLL.out; unfold maxLen; (try simp only [List.length_cons, List.length_nil]); omega) (by have := HLL.out; (try simp only [List.length_cons, List.length_nil]); omega) K4.out.size ?_
            intro v5 wv5 ho hg hbb
            obtain ⟨ea5, ec5, rfl⟩ := own_slice ho
            have HO5 := Lib.hid ho
            have K5 : Hid (Kp wB wv5 none) := Lib.hid (Kp.row K4.out hg (fun q hq => (HO4.out.lt q hq).1))
            clear ho hg hbb
            try go_wp2_with fail
            refine hK.out _ _ ?_ (fun hHeld => ?_)
            · exact ⟨hcell (blk HBB.out K5.out) 0 rfl, hcell (blk HBB.out K5.out) 1 rfl, hcell (blk HBB.out K5.out) 2 rfl, trivial⟩
            clear hK K
            try simp only [Act.put, sm]
            refine wpAnyL_ready (rs := [16]) (by kernel_rfl) (by simp) ?_
            refine AllReadyL.last (o := _) rfl (fun K hK => ?_)
            clear hHeld
            go_simp
            try go_wp2_with fail
            refine hK.out _ _ ?_
            clear hK K
            try simp only [Act.put, sm]
            refine wpAnyL_done (by kernel_rfl) ?_ _
            go_wp2_with fail
            go_meet
            exact OddIs.mk2 (by have := HLT.out; first | omega | (simp; omega)) (by have := HLT.out; first | omega | (simp; omega)) (by have := HLT.out; simp; omega) HO5.out (by simp) K5.out
          · clear hHeld
            go_simp
            have K2 : Hid (Kp wB ((wB.drew.alloc (Obj.cells #[] 30)).alloc (Obj.cells #[.int .i64 rk, .slice ea j ec, .int .i64 rr, .bool c] 30)) none) := Lib.hid (K1.out.alloc _)
            have HW2 : Hid (((wB.drew.alloc (Obj.cells #[] 30)).alloc (Obj.cells #[.int .i64 rk, .slice ea j ec, .int .i64 rr, .bool c] 30)).heap[wB.heap.size + 1]? = some (Obj.cells #[.int .i64 rk, .slice ea j ec, .int .i64 rr, .bool c] 30 (0, 0))) := Lib.hid (by have h := heap_alloc_new (wB.drew.alloc (Obj.cells #[] 30)) (Obj.cells #[.int .i64 rk, .slice ea j ec, .int .i64 rr, .bool c] 30); simpa using h)
            have HO2 := Lib.hid (own_keep HO1.out ((Kp.refl (wB.drew.alloc (Obj.cells #[] 30)) none).alloc (Obj.cells #[.int .i64 rk, .slice ea j ec, .int .i64 rr, .bool c] 30)))
            have HNE : Hid (wB.heap.size ≠ wB.heap.size + 1) := Lib.hid (by have := (HO1.out.lt _ rfl).2; first | omega | (simp at this; omega))
            try go_wp2_with fail
            refine hK.out _ _ ?_ (fun hHeld => ?_)
            · exact ⟨hcell (blk HBB.out K2.out) 0 rfl, hcell (blk HBB.out K2.out) 1 rfl, hcell (blk HBB.out K2.out) 2 rfl, trivial⟩
            clear hK K
            try simp only [Act.put, sm]
            refine wpAnyL_ready (rs := [4]) (by kernel_rfl) (by simp) ?_
            refine AllReadyL.cons (o := _) rfl (fun K hK => ?_) AllReadyL.nil
            clear hHeld
            refine step_app (f := dtC) rfl (.tmp 34) (.tmp 37) wB.heap.size 27 30 rfl i0 _ 4 48 (by kernel_rfl) hi hz0 hz1 hz2 rfl (by omega) (fun _ => rfl) dt_one _ _ _ rfl HO2.out _ tk rfl (HTK.out _ K2.out) (by have := HLL.out; unfold maxLen; (try simp only [List.length_cons, List.length_nil]); omega) (by have := HLL.out; (try simp only [List.length_cons, List.length_nil]); omega) K2.out.size ?_
            intro v3 wv3 ho hg hbb
            obtain ⟨ea3, ec3, rfl⟩ := own_slice ho
            have HO3 : Hid (wv3.ownsRow wB.heap.size 30 4 (.slice ea3 tk.length ec3) tk.length (tk.flatMap dtC)) := Lib.hid (by simpa using ho)
            have K3 : Hid (Kp wB wv3 none) := Lib.hid (Kp.row K2.out hg (fun q hq => (HO2.out.lt q hq).1))
            have HW3 := Lib.hid (res_kept HW2.out hg (fun q hq => by have h1 : wB.heap.size = q := Option.some.inj hq; have := HNE.out; omega))
            clear ho hg hbb
            try simp only [Nat.zero_add]
            try go_wp2_with fail
            refine hK.out _ _ ?_ (fun hHeld => ?_)
            · exact ⟨hcell (blk HBB.out K3.out) 0 rfl, hcell (blk HBB.out K3.out) 1 rfl, hcell (blk HBB.out K3.out) 2 rfl, trivial⟩
            clear hK K
            try simp only [Act.put, sm]
            refine wpAnyL_ready (rs := [11]) (by kernel_rfl) (by simp) ?_
            refine AllReadyL.cons (o := _) rfl (fun K hK => ?_) AllReadyL.nil
            clear hHeld
            refine step_app (f := dtC) rfl (.tmp 38) (.tmp 44) wB.heap.size 27 30 rfl i0 _ 4 48 (by kernel_rfl) hi hz0 hz1 hz2 rfl (by omega) (fun _ => rfl) dt_one _ _ _ rfl HO3.out _ [(⟨⟨⟨rk, res.take j, rr⟩, c⟩, ea, ec⟩ : DT)] rfl (dt_lies HW3.out HJE.out) (by have := HLL.out; unfold maxLen; (try simp only [List.length_cons, List.length_nil]); omega) (by have := HLL.out; (try simp only [List.length_cons, List.length_nil]); omega) K3.out.size ?_
            intro v4 wv4 ho hg hbb
            obtain ⟨ea4, ec4, rfl⟩ := own_slice ho
            have HO4 := Lib.hid ho
            have K4 : Hid (Kp wB wv4 none) := Lib.hid (Kp.row K3.out hg (fun q hq => (HO3.out.lt q hq).1))
            clear ho hg hbb
            try go_wp2_with fail
            refine hK.out _ _ ?_ (fun hHeld => ?_)
            · exact ⟨hcell (blk HBB.out K4.out) 0 rfl, hcell (blk HBB.out K4.out) 1 rfl, hcell (blk HBB.out K4.out) 2 rfl, trivial⟩
            clear hK K
            try simp only [Act.put, sm]
            refine wpAnyL_ready (rs := [15]) (by kernel_rfl) (by simp) ?_
            refine AllReadyL.cons (o := _) rfl (fun K hK => ?_) AllReadyL.nil
            clear hHeld
            refine step_app (f := dtC) rfl (.tmp 45) (.tmp 48) wB.heap.size 27 30 rfl i0 _ 4 48 (by kernel_rfl) hi hz0 hz1 hz2 rfl (by omega) (fun _ => rfl) dt_one _ _ _ rfl HO4.out _ td rfl (HDR.out _ K4.out) (by have := HLL.out; unfold maxLen; (try simp only [List.length_cons, List.length_nil]); omega) (by have := HLL.out; (try simp only [List.length_cons, List.length_nil]); omega) K4.out.size ?_
            intro v5 wv5 ho hg hbb
            obtain ⟨ea5, ec5, rfl⟩ := own_slice ho
            have HO5 := Lib.hid ho
            have K5 : Hid (Kp wB wv5 none) := Lib.hid (Kp.row K4.out hg (fun q hq => (HO4.out.lt q hq).1))
            clear ho hg hbb
            try go_wp2_with fail
            refine hK.out _ _ ?_ (fun hHeld => ?_)
            · exact ⟨hcell (blk HBB.out K5.out) 0 rfl, hcell (blk HBB.out K5.out) 1 rfl, hcell (blk HBB.out K5.out) 2 rfl, trivial⟩
            clear hK K
            try simp only [Act.put, sm]
            refine wpAnyL_ready (rs := [16]) (by kernel_rfl) (by simp) ?_
            refine AllReadyL.last (o := _) rfl (fun K hK => ?_)
            clear hHeld
            go_simp
            try go_wp2_with fail
            refine hK.out _ _ ?_
            clear hK K
            try simp only [Act.put, sm]
            refine wpAnyL_done (by kernel_rfl) ?_ _
            go_wp2_with fail
            go_meet
            exact OddIs.mk2 (by have := HLT.out; first | omega | (simp; omega)) (by have := HLT.out; first | omega | (simp; omega)) (by have := HLT.out; simp; omega) HO5.out (by simp) K5.out
        · clear hHeld
          go_simp
          have K1 : Hid (Kp wB (wB.drew.alloc (Obj.cells #[.int .i64 rk, .slice ea j ec, .int .i64 rr, .bool c] 30)) none) := Lib.hid (K0.out.alloc _)
          have HW1 : Hid ((wB.drew.alloc (Obj.cells #[.int .i64 rk, .slice ea j ec, .int .i64 rr, .bool c] 30)).heap[wB.heap.size]? = some (Obj.cells #[.int .i64 rk, .slice ea j ec, .int .i64 rr, .bool c] 30 (0, 0))) := Lib.hid (by have h := heap_alloc_new wB.drew (Obj.cells #[.int .i64 rk, .slice ea j ec, .int .i64 rr, .bool c] 30); simpa using h)
          try go_wp2_with fail
          refine hK.out _ _ ?_ (fun hHeld => ?_)
          · exact ⟨hcell (blk HBB.out K1.out) 0 rfl, hcell (blk HBB.out K1.out) 1 rfl, hcell (blk HBB.out K1.out) 2 rfl, trivial⟩
          clear hK K
          try simp only [Act.put, sm]
          refine wpAnyL_ready (rs := [0]) (by kernel_rfl) (by simp) ?_
          refine AllReadyL.cons (o := _) rfl (fun K hK => ?_) AllReadyL.nil
          clear hHeld
          go_simp
          have K2 : Hid (Kp wB ((wB.drew.alloc (Obj.cells #[.int .i64 rk, .slice ea j ec, .int .i64 rr, .bool c] 30)).alloc (Obj.cells #[] 30)) none) := Lib.hid (K1.out.alloc _)
          have HO2 : Hid (((wB.drew.alloc (Obj.cells #[.int .i64 rk, .slice ea j ec, .int .i64 rr, .bool c] 30)).alloc (Obj.cells #[] 30)).ownsRow wB.heap.size 30 4 (.slice (some ⟨wB.heap.size + 1, 0, none⟩) 0 0) 0 []) := Lib.hid (by have h := World.ownsRow_made (e := 30) (size := 4) (wB.drew.alloc (Obj.cells #[.int .i64 rk, .slice ea j ec, .int .i64 rr, .bool c] 30)) #[] 0 K1.out.size (by unfold maxLen; omega) rfl; simpa using h)
          have HW2 : Hid (((wB.drew.alloc (Obj.cells #[.int .i64 rk, .slice ea j ec, .int .i64 rr, .bool c] 30)).alloc (Obj.cells #[] 30)).heap[wB.heap.size]? = _) := Lib.hid (blk HW1.out ((Kp.refl _ none).alloc _))
          have HNE : Hid (wB.heap.size + 1 ≠ wB.heap.size) := Lib.hid (by have := lt_of_block HW1.out; first | omega | (simp at this; omega))
          try go_wp2_with fail
          refine hK.out _ _ ?_ (fun hHeld => ?_)
          · exact ⟨hcell (blk HBB.out K2.out) 0 rfl, hcell (blk HBB.out K2.out) 1 rfl, hcell (blk HBB.out K2.out) 2 rfl, trivial⟩
          clear hK K
          try simp only [Act.put, sm]
          refine wpAnyL_ready (rs := [4]) (by kernel_rfl) (by simp) ?_
          refine AllReadyL.cons (o := _) rfl (fun K hK => ?_) AllReadyL.nil
          clear hHeld
          refine step_app (f := dtC) rfl (.tmp 34) (.tmp 37) wB.heap.size 27 30 rfl i0 _ 4 48 (by kernel_rfl) hi hz0 hz1 hz2 rfl (by omega) (fun _ => rfl) dt_one _ _ _ rfl HO2.out _ tk rfl (HTK.out _ K2.out) (by have := HLL.out; unfold maxLen; (try simp only [List.length_cons, List.length_nil]); omega) (by have := HLL.out; (try simp only [List.length_cons, List.length_nil]); omega) K2.out.size ?_
          intro v3 wv3 ho hg hbb
          obtain ⟨ea3, ec3, rfl⟩ := own_slice ho
          have HO3 : Hid (wv3.ownsRow wB.heap.size 30 4 (.slice ea3 tk.length ec3) tk.length (tk.flatMap dtC)) := Lib.hid (by simpa using ho)
          have K3 : Hid (Kp wB wv3 none) := Lib.hid (Kp.row K2.out hg (fun q hq => (HO2.out.lt q hq).1))
          have HW3 := Lib.hid (res_kept HW2.out hg (fun q hq => by have h1 : wB.heap.size + 1 = q := Option.some.inj hq; have := HNE.out; omega))
          clear ho hg hbb
          try simp only [Nat.zero_add]
          try go_wp2_with fail
          refine hK.out _ _ ?_ (fun hHeld => ?_)
          · exact ⟨hcell (blk HBB.out K3.out) 0 rfl, hcell (blk HBB.out K3.out) 1 rfl, hcell (blk HBB.out K3.out) 2 rfl, trivial⟩
          clear hK K
          try simp only [Act.put, sm]
          refine wpAnyL_ready (rs := [11]) (by kernel_rfl) (by simp) ?_
          refine AllReadyL.cons (o := _) rfl (fun K hK => ?_) AllReadyL.nil
          clear hHeld
          refine step_app (f := dtC) rfl (.tmp 38) (.tmp 44) wB.heap.size 27 30 rfl i0 _ 4 48 (by kernel_rfl) hi hz0 hz1 hz2 rfl (by omega) (fun _ => rfl) dt_one _ _ _ rfl HO3.out _ [(⟨⟨⟨rk, res.take j, rr⟩, c⟩, ea, ec⟩ : DT)] rfl (dt_lies HW3.out HJE.out) (by have := HLL.out; unfold maxLen; (try simp only [List.length_cons, List.length_nil]); omega) (by have := HLL.out; (try simp only [List.length_cons, List.length_nil]); omega) K3.out.size ?_
          intro v4 wv4 ho hg hbb
          obtain ⟨ea4, ec4, rfl⟩ := own_slice ho
          have HO4 := Lib.hid ho
          have K4 : Hid (Kp wB wv4 none) := Lib.hid (Kp.row K3.out hg (fun q hq => (HO3.out.lt q hq).1))
          clear ho hg hbb
          try go_wp2_with fail
          refine hK.out _ _ ?_ (fun hHeld => ?_)
          · exact ⟨hcell (blk HBB.out K4.out) 0 rfl, hcell (blk HBB.out K4.out) 1 rfl, hcell (blk HBB.out K4.out) 2 rfl, trivial⟩
          clear hK K
          try simp only [Act.put, sm]
          refine wpAnyL_ready (rs := [15]) (by kernel_rfl) (by simp) ?_
          refine AllReadyL.cons (o := _) rfl (fun K hK => ?_) AllReadyL.nil
          clear hHeld
          refine step_app (f := dtC) rfl (.tmp 45) (.tmp 48) wB.heap.size 27 30 rfl i0 _ 4 48 (by kernel_rfl) hi hz0 hz1 hz2 rfl (by omega) (fun _ => rfl) dt_one _ _ _ rfl HO4.out _ td rfl (HDR.out _ K4.out) (by have := HLL.out; unfold maxLen; (try simp only [List.length_cons, List.length_nil]); omega) (by have := HLL.out; (try simp only [List.length_cons, List.length_nil]); omega) K4.out.size ?_
          intro v5 wv5 ho hg hbb
          obtain ⟨ea5, ec5, rfl⟩ := own_slice ho
          have HO5 := Lib.hid ho
          have K5 : Hid (Kp wB wv5 none) := Lib.hid (Kp.row K4.out hg (fun q hq => (HO4.out.lt q hq).1))
          clear ho hg hbb
          try go_wp2_with fail
          refine hK.out _ _ ?_ (fun hHeld => ?_)
          · exact ⟨hcell (blk HBB.out K5.out) 0 rfl, hcell (blk HBB.out K5.out) 1 rfl, hcell (blk HBB.out K5.out) 2 rfl, trivial⟩
          clear hK K
          try simp only [Act.put, sm]
          refine wpAnyL_ready (rs := [16]) (by kernel_rfl) (by simp) ?_
          refine AllReadyL.last (o := _) rfl (fun K hK => ?_)
          clear hHeld
          go_simp
          try go_wp2_with fail
          refine hK.out _ _ ?_
          clear hK K
          try simp only [Act.put, sm]
          refine wpAnyL_done (by kernel_rfl) ?_ _
          go_wp2_with fail
          go_meet
          exact OddIs.mk2 (by have := HLT.out; first | omega | (simp; omega)) (by have := HLT.out; first | omega | (simp; omega)) (by have := HLT.out; simp; omega) HO5.out (by simp) K5.out
  case rest =>
    obtain ⟨bo, bc, rfl, ho, kw⟩ := hcut
    have HP := Lib.hid (HPOST.out bo bc _ ⟨bo, bc, rfl, ho, kw⟩)
    have KW := Lib.hid kw
    have HWR : Hid (∀ (us : List DT) (m : Nat) (ao : Option Addr) (cap : Nat) (V : World), Kp w V none → us.length = m → m ≤ 10 → LiesAt 4 dtC V ao cap us → (∀ z ∈ us, LiesAt 7 edC V z.ea z.ec z.d.s.es) → ∃ (t : List UInt8) (e : Int), (∀ U, Kp V U none → Calls Tryz.prog 9 #[.slice ao m cap] U fun E w' => E = .returned (.tuple #[.string ⟨t.toArray⟩, .int .i64 e]) ∧ Kp U w' none) ∧ ∀ U, Kp V U none → Calls Tryz.prog 10 #[.slice ao m cap] U fun E w' => E = .returned (.tuple #[.string ⟨t.toArray⟩, .int .i64 e]) ∧ Kp U w' none) := Lib.hid (fun us m ao cap V kv hm hm2 h1 h2 => ⟨(Pl.write (us.map (fun z : DT => z.d))).1, (Pl.write (us.map (fun z : DT => z.d))).2, fun U ku => write_any (us.map (fun z : DT => z.d)) m (by rw [List.length_map, hm]) ao cap U (HE.out.kp0 (kv.trans ku)) ((drs_lies h1 h2).keep ku) (by omega), fun U ku => rwrite_any (us.map (fun z : DT => z.d)) m (by rw [List.length_map, hm]) ao cap U ((drs_lies h1 h2).keep ku) (by omega)⟩)
    obtain ⟨t0, e0, hw0, hr0⟩ := HWR.out ts n ao cap _ (KB.out.trans kw) HN.out (by omega) (HT1.out.keep kw) (fun z hz => (HEB.out z hz).keep kw)
    obtain ⟨t1, e1, hw1, hr1⟩ := HWR.out _ (n + 1) bo bc _ (KB.out.trans kw) HP.out.2.1 (by omega) HP.out.1 HP.out.2.2
    have HW0 := Lib.hid hw0
    have HR0 := Lib.hid hr0
    have HW1 := Lib.hid hw1
    have HR1 := Lib.hid hr1
    clear hw0 hr0 hw1 hr1 ho kw HPOST HWR HP HT1 HEB HSPLIT
    go_wp2_with fail
    have HLB := Lib.hid (heap_alloc_new wc (Obj.cells #[.slice ao n cap, .slice bo (n + 1) bc] 27))
    have KL : Hid (Kp w (wc.alloc (Obj.cells #[.slice ao n cap, .slice bo (n + 1) bc] 27)) none) := Lib.hid ((KB.out.trans KW.out).alloc _)
    have KL2 : Hid (Kp wc (wc.alloc (Obj.cells #[.slice ao n cap, .slice bo (n + 1) bc] 27)) none) := Lib.hid ((Kp.refl wc none).alloc _)
    generalize wc.alloc (Obj.cells #[.slice ao n cap, .slice bo (n + 1) bc] 27) = wX at *
    go_loopw [54] (fun i wr => ∃ q : Nat, q ≤ 2 ∧ i = .int .i64 q ∧ Kp wX wr none) (fun i _ => 2 - (intOf i).toNat)
    case atStart => exact ⟨0, by omega, rfl, Kp.refl _ _⟩
    case round =>
      obtain ⟨q, hq, rfl, hK⟩ := hrel
      have HK := Lib.hid hK
      clear hK
      have hq3 : q = 0 ∨ q = 1 ∨ q = 2 := by omega
      rcases hq3 with rfl | rfl | rfl
      · have hcl := hcell (blk HLB.out HK.out) 0 rfl
        go_wp2_with fail
        refine (HW0.out _ (KL2.out.trans HK.out)).mono ?_
        rintro E w1 ⟨rfl, k1⟩
        have K1 := Lib.hid (HK.out.trans k1)
        clear k1 hcl
        go_wp2_with fail
        refine (HR0.out _ (KL2.out.trans K1.out)).mono ?_
        rintro E w2 ⟨rfl, k2⟩
        have K2 := Lib.hid (K1.out.trans k2)
        clear k2 K1
        go_wp2_with fail
        first | exact ⟨⟨1, by omega, by go_num, K2.out⟩, by simp [intOf]⟩ | (go_roundw; all_goals first | exact ⟨1, by omega, by go_num, K2.out⟩ | (simp [intOf]))
      · have hcl := hcell (blk HLB.out HK.out) 1 rfl
        go_wp2_with fail
        refine (HW1.out _ (KL2.out.trans HK.out)).mono ?_
        rintro E w1 ⟨rfl, k1⟩
        have K1 := Lib.hid (HK.out.trans k1)
        clear k1 hcl
        go_wp2_with fail
        refine (HR1.out _ (KL2.out.trans K1.out)).mono ?_
        rintro E w2 ⟨rfl, k2⟩
        have K2 := Lib.hid (K1.out.trans k2)
        clear k2 K1
        go_wp2_with fail
        first | exact ⟨⟨2, by omega, by go_num, K2.out⟩, by simp [intOf]⟩ | (go_roundw; all_goals first | exact ⟨2, by omega, by go_num, K2.out⟩ | (simp [intOf]))
      · go_wp2_with fail
        go_ret
        exact ⟨rfl, KL.out.trans HK.out⟩

end Go.Proofs.YtggplbenliaodaaGreatDoor
