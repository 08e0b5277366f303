/- The chapter's examples, walked: they are as the document says. No condition but what the library's variables hold. -/
import Derived.Test.YtldjhjbodhhnbaaDoorRdp
import Derived.Test.YtldjhjbodhhnbaaDoorWp
import Derived.Test.YtldjhjbodhhnbaaDoorEx
import Derived.Test.YtldjhjbodhhnbaaDoorRn
namespace Go.Proofs.YtldjhjbodhhnbaaDoor
open Go.RowKit

set_option maxHeartbeats 1000000 in
set_option maxRecDepth 100000 in
theorem readRows_any (s : List UInt8) (o : Li.Rd) (w : World) (he : Env w) (hs : s.length ≤ 262144) (ho : Li.readFile Li.place Li.rowK s = o) : Calls Tryd.prog 15 #[.string ⟨s.toArray⟩] w (ReadEnds w 33 o) := by
  have HE := Lib.hid he
  have HO := Lib.hid ho
  clear he ho
  go_enter Tryd.func15, Tryd.ntmps15
  go_wp2_with fail
  refine (readRow_any s Li.place _ HE.out hs).mono ?_
  rintro e w' h
  rw [HO.out] at h
  cases o with
  | ok l =>
    obtain ⟨⟨v, rfl, hv⟩, k⟩ := h
    have HV := Lib.hid hv
    have HK := Lib.hid k
    clear hv k
    go_wp2_with fail
    go_ret3
    exact ⟨⟨v, rfl, HV.out⟩, HK.out⟩
  | bad n =>
    obtain ⟨rfl, k⟩ := h
    have HK := Lib.hid k
    clear k
    go_wp2_with fail
    go_ret3
    exact ⟨rfl, HK.out⟩
set_option maxHeartbeats 1000000 in
set_option maxRecDepth 100000 in
theorem readProbes_any (s : List UInt8) (o : Li.Rd) (w : World) (he : Env w) (hs : s.length ≤ 262144) (ho : Li.readFile Li.probe Li.probeK s = o) : Calls Tryd.prog 19 #[.string ⟨s.toArray⟩] w (ReadEnds w 54 o) := by
  have HE := Lib.hid he
  have HO := Lib.hid ho
  clear he ho
  go_enter Tryd.func19, Tryd.ntmps19
  go_wp2_with fail
  refine (readProbe_any s Li.probe _ HE.out hs).mono ?_
  rintro e w' h
  rw [HO.out] at h
  cases o with
  | ok l =>
    obtain ⟨⟨v, rfl, hv⟩, k⟩ := h
    have HV := Lib.hid hv
    have HK := Lib.hid k
    clear hv k
    go_wp2_with fail
    go_ret3
    exact ⟨⟨v, rfl, HV.out⟩, HK.out⟩
  | bad n =>
    obtain ⟨rfl, k⟩ := h
    have HK := Lib.hid k
    clear k
    go_wp2_with fail
    go_ret3
    exact ⟨rfl, HK.out⟩
set_option maxHeartbeats 1000000 in
set_option maxRecDepth 100000 in
theorem refuses_any (s : List UInt8) (n : Nat) (w : World) (he : Env w) (hs : s.length ≤ 262144) (ho : Li.readFile Li.place Li.rowK s = .bad n) : Calls Tryd.prog 23 #[.string ⟨s.toArray⟩, .int .i64 n] w fun E w' => E = .returned (.bool true) ∧ Kp w w' none := by
  have HE := Lib.hid he
  have HO := Lib.hid ho
  clear he ho
  go_enter Tryd.func23, Tryd.ntmps23
  go_wp2_with fail
  refine (readRows_any s _ _ HE.out hs HO.out).mono ?_
  rintro e w' ⟨rfl, k⟩
  have HK := Lib.hid k
  clear k
  go_wp2_with fail
  go_ret
  exact ⟨rfl, HK.out⟩

theorem i0 : Lib.itoa 0 = [48] := itoa_digit (n := 0) (by omega) (by omega)
theorem i1 : Lib.itoa 1 = [49] := itoa_digit (n := 1) (by omega) (by omega)
theorem i2 : Lib.itoa 2 = [50] := itoa_digit (n := 2) (by omega) (by omega)
theorem i3 : Lib.itoa 3 = [51] := itoa_digit (n := 3) (by omega) (by omega)
theorem i4 : Lib.itoa 4 = [52] := itoa_digit (n := 4) (by omega) (by omega)
theorem i10 : Lib.itoa 10 = [49, 48] := by rw [itoa_big (by omega), show (10 : Int) / 10 = 1 by rfl, show (10 : Int) % 10 = 0 by rfl, i1, i0]; rfl
theorem i100 : Lib.itoa 100 = [49, 48, 48] := by rw [itoa_big (by omega), show (100 : Int) / 10 = 10 by rfl, show (100 : Int) % 10 = 0 by rfl, i10, i0]; rfl
theorem im50 : Lib.itoa (-50) = [45, 53, 48] := by rw [itoa_neg_big (by omega), show (-50 : Int).tdiv 10 = -5 by rfl, show -(-50 : Int).tmod 10 = 0 by rfl, itoa_neg_small (by omega) (by omega), show (- -5 : Int) = 5 by rfl, itoa_digit (n := 5) (by omega) (by omega), i0]; rfl
def exRow : List Li.Fld := [.s [85, 49], .s [82], .i 100, .i (-50), .i 1, .b false]
def exProbe : List Li.Fld := [.i 2, .s [85, 49], .s [80, 49], .i 3, .i 4, .i 2]
def aRow : List Li.Fld := [.s [97, 34], .s [], .i 0, .i 0, .i 0, .b true]
theorem end0 : Li.endOf 0 = [101, 110, 100, 32, 48] := by unfold Li.endOf; rw [show ((0 : Nat) : Int) = 0 from rfl, i0]; rfl
theorem end1 : Li.endOf 1 = [101, 110, 100, 32, 49] := by unfold Li.endOf; rw [show ((1 : Nat) : Int) = 1 from rfl, i1]; rfl
theorem line1 : Li.lineOf Li.place exRow = [112, 108, 97, 99, 101, 32, 34, 85, 49, 34, 32, 34, 82, 34, 32, 49, 48, 48, 32, 45, 53, 48, 32, 49, 32, 116, 111, 112] := by
  unfold Li.lineOf exRow
  simp only [List.flatMap_cons, List.flatMap_nil, Li.encF, i100, im50, i1]
  rfl
theorem line2 : Li.lineOf Li.probe exProbe = [112, 114, 111, 98, 101, 32, 50, 32, 34, 85, 49, 34, 32, 34, 80, 49, 34, 32, 51, 32, 52, 32, 50] := by
  unfold Li.lineOf exProbe
  simp only [List.flatMap_cons, List.flatMap_nil, Li.encF, i2, i3, i4]
  rfl
theorem line3 : Li.lineOf Li.place aRow = [112, 108, 97, 99, 101, 32, 34, 97, 92, 50, 50, 34, 32, 34, 34, 32, 48, 32, 48, 32, 48, 32, 98, 111, 116, 116, 111, 109] := by
  unfold Li.lineOf aRow
  simp only [List.flatMap_cons, List.flatMap_nil, Li.encF, i0]
  rfl
theorem file0 : Li.fileOf Li.place [] = [101, 110, 100, 32, 48, 10] := by
  unfold Li.fileOf; rw [show ([] : List (List Li.Fld)).length = 0 from rfl, end0]; rfl
theorem file_one (kind : List UInt8) (x : List Li.Fld) : Li.fileOf kind [x] = Li.lineOf kind x ++ [10] ++ [101, 110, 100, 32, 49] ++ [10] := by
  unfold Li.fileOf; rw [show [x].length = 1 from rfl, end1]; simp
theorem file1 : Li.fileOf Li.place [exRow] = [112, 108, 97, 99, 101, 32, 34, 85, 49, 34, 32, 34, 82, 34, 32, 49, 48, 48, 32, 45, 53, 48, 32, 49, 32, 116, 111, 112, 10, 101, 110, 100, 32, 49, 10] := by rw [file_one, line1]; rfl
theorem file2 : Li.fileOf Li.probe [exProbe] = [112, 114, 111, 98, 101, 32, 50, 32, 34, 85, 49, 34, 32, 34, 80, 49, 34, 32, 51, 32, 52, 32, 50, 10, 101, 110, 100, 32, 49, 10] := by rw [file_one, line2]; rfl
theorem file3 : Li.fileOf Li.place [aRow] = [112, 108, 97, 99, 101, 32, 34, 97, 92, 50, 50, 34, 32, 34, 34, 32, 48, 32, 48, 32, 48, 32, 98, 111, 116, 116, 111, 109, 10, 101, 110, 100, 32, 49, 10] := by rw [file_one, line3]; rfl
theorem good1 : Li.Good Li.rowK exRow := ⟨rfl, by intro f hf; simp [exRow] at hf; rcases hf with rfl | rfl | rfl | rfl | rfl | rfl <;> simp [Li.Fld.ok, Wr.I64]⟩
theorem good2 : Li.Good Li.probeK exProbe := ⟨rfl, by intro f hf; simp [exProbe] at hf; rcases hf with rfl | rfl | rfl | rfl | rfl | rfl <;> simp [Li.Fld.ok, Wr.I64]⟩
theorem good3 : Li.Good Li.rowK aRow := ⟨rfl, by intro f hf; simp [aRow] at hf; rcases hf with rfl | rfl | rfl | rfl <;> simp [Li.Fld.ok, Wr.I64]⟩
theorem rd0 : Li.readFile Li.place Li.rowK [101, 110, 100, 32, 48, 10] = .ok [] := by
  have := Li.read_write (ks := Li.rowK) Li.place_kind (l := []) (by simp) []
  rw [List.append_nil, file0, if_pos rfl] at this; exact this
theorem rd3 : Li.readFile Li.place Li.rowK [112, 108, 97, 99, 101, 32, 34, 97, 92, 50, 50, 34, 32, 34, 34, 32, 48, 32, 48, 32, 48, 32, 98, 111, 116, 116, 111, 109, 10, 101, 110, 100, 32, 49, 10] = .ok [aRow] := by
  have := Li.read_write (ks := Li.rowK) Li.place_kind (l := [aRow]) (by simpa using good3) []
  rw [List.append_nil, file3, if_pos rfl] at this; exact this
theorem rb1 : Li.readFile Li.place Li.rowK [112, 108, 97, 99, 101, 32, 34, 85, 49, 34, 32, 34, 82, 34, 32, 49, 48, 48, 32, 45, 53, 48, 32, 49, 32, 116, 111, 112, 10, 101, 110, 100, 32, 50, 10] = .bad 2 := by
  have := Li.on_one (kind := Li.place) (ks := Li.rowK) Li.place_kind good1 [101, 110, 100, 32, 50, 10] [] 1
  rw [line1] at this
  rw [Li.readFile_on]
  refine this.trans (Li.on_bad (this := [101, 110, 100, 32, 50]) (rest := []) _ _ rfl ?_ ?_)
  · show _ ≠ Li.endOf 1
    rw [end1]; decide
  · unfold Li.parseLine; exact if_neg (by decide)
theorem rb2 : Li.readFile Li.place Li.rowK [] = .bad 1 := by rw [Li.readFile_on]; exact Li.on_none _ _ rfl
theorem rb3 : Li.readFile Li.place Li.rowK [101, 110, 100, 32, 48] = .bad 1 := by rw [Li.readFile_on]; exact Li.on_none _ _ rfl
theorem rb4 : Li.readFile Li.place Li.rowK [101, 110, 100, 32, 48, 10, 101, 110, 100, 32, 48, 10] = .bad 2 := by
  rw [Li.readFile_on, on_end2 (out := []) (this := [101, 110, 100, 32, 48]) (rest := [101, 110, 100, 32, 48, 10]) 1 rfl end0.symm, if_neg (by decide)]
theorem short1 : Short exRow := by intro t ht; simp [exRow] at ht; rcases ht with rfl | rfl <;> simp
theorem short2 : Short exProbe := by intro t ht; simp [exProbe] at ht; rcases ht with rfl | rfl <;> simp
theorem one_rows (w : World) (x : List Li.Fld) (T : TypeId) : IsRows (w.alloc (.cells (x.map fldVal).toArray T)) (.slice (some ⟨w.heap.size, 0, none⟩) 1 1) [x] := by
  refine .inr ⟨w.heap.size, 0, 1, rfl, Nat.le_refl _, by simp, fun k hk j hj => ?_⟩
  have hk0 : k = 0 := by simp at hk; omega
  subst hk0
  simp only [List.getElem_cons_zero] at hj ⊢
  simp only [World.cell?, heap_alloc_new]
  simp [hj]
theorem wrows_lit (v : Value) (xs : List (List Li.Fld)) (l : List UInt8) (w : World) (he : Env w) (h : IsRows w v xs) (hl : xs.length ≤ 65536) (hg : ∀ x ∈ xs, Li.Good Li.rowK x ∧ Short x) (hw : Li.fileOf Li.place xs = l) :
    Calls Tryd.prog 9 #[v] w fun e w' => e = .returned (.string ⟨l.toArray⟩) ∧ Kp w w' none := hw ▸ writeRows_any v xs w he h hl hg
theorem wprobes_lit (v : Value) (xs : List (List Li.Fld)) (l : List UInt8) (w : World) (he : Env w) (h : IsRows w v xs) (hl : xs.length ≤ 65536) (hg : ∀ x ∈ xs, Li.Good Li.probeK x ∧ Short x) (hw : Li.fileOf Li.probe xs = l) :
    Calls Tryd.prog 12 #[v] w fun e w' => e = .returned (.string ⟨l.toArray⟩) ∧ Kp w w' none := hw ▸ writeProbes_any v xs w he h hl hg
theorem alloc_keeps {w : World} {b : Nat} {x o : Obj} (h : w.heap[b]? = some x) : (w.alloc o).heap[b]? = some x := (((Kp.refl w none).alloc o).block b (lt_of_block h) (by simp)).trans h
theorem own_zero {w : World} {base : Nat} {e : TypeId} {v : Value} (h : w.ownsRow base e 6 v ([] : List (List Li.Fld)).length (cellsOf [])) : ∃ ao cap, v = .slice ao 0 cap := by
  rcases h.2 with ⟨h, _⟩ | ⟨g, cap, cur, h, _⟩
  · exact ⟨_, _, h⟩
  · exact ⟨_, _, h⟩
theorem own_one {w : World} {base : Nat} {e : TypeId} {v : Value} {x : List Li.Fld} (h : w.ownsRow base e 6 v [x].length (cellsOf [x])) (_h6 : x.length = 6) :
    ∃ g cap, v = .slice (some ⟨g, 0, none⟩) 1 cap ∧ 1 ≤ cap ∧ ∀ j, (hj : j < x.length) → w.cell? ⟨g, j, none⟩ = some (fldVal x[j]) := by
  rcases h.2 with ⟨_, h0⟩ | ⟨g, cap, cur, rfl, _, hg, hc, _⟩
  · simp at h0
  · refine ⟨g, cap, rfl, by simpa using hc, fun j hj => ?_⟩
    have := h.cells rfl j (fldVal x[j]) (by simp [cellsOf, hj])
    rwa [show ((⟨g, 0, none⟩ : Addr).add j) = ⟨g, j, none⟩ by by_cases h : j = 0 <;> simp [Addr.add, h]] at this

set_option maxHeartbeats 4000000 in
set_option maxRecDepth 100000 in
theorem sanity_any (w : World) (he : Env w) : Calls Tryd.prog 8 #[] w fun E w' => E = .returned (.bool true) ∧ Kp w w' none := by
  have HE := Lib.hid he
  have K0 : Hid (Kp w (w.alloc (.cells #[.int .i64 2, .string ⟨#[85, 49]⟩, .string ⟨#[80, 49]⟩, .int .i64 3, .int .i64 4, .int .i64 2] 54)) none) := Lib.hid ((Kp.refl w none).alloc _)
  have HP := Lib.hid (heap_alloc_new w (.cells #[.int .i64 2, .string ⟨#[85, 49]⟩, .string ⟨#[80, 49]⟩, .int .i64 3, .int .i64 4, .int .i64 2] 54))
  clear he
  go_enter Tryd.func8, Tryd.ntmps8
  go_wp2_with fail
  refine (example_any _).mono ?_
  rintro e w1 ⟨rfl, k⟩
  have K1 := Lib.hid (K0.out.trans k)
  have HP1 := Lib.hid ((k.block _ (lt_of_block HP.out) (by simp)).trans HP.out)
  clear k
  go_wp2_with fail
  refine (wrows_lit _ [exRow] _ _ (HE.out.kp0 (K1.out.alloc _)) (one_rows w1 exRow 33) (by simp) (by simpa using ⟨good1, short1⟩) file1).mono ?_
  rintro e w2 ⟨rfl, k⟩
  have K2 := Lib.hid ((K1.out.alloc _).trans k)
  have HP2 := Lib.hid ((k.block _ (lt_of_block (alloc_keeps HP1.out)) (by simp)).trans (alloc_keeps HP1.out))
  clear k
  have c0 : w2.cell? ⟨w.heap.size, 0, none⟩ = some (.int .i64 2) := by rw [Lib.cell_of_heap HP2.out]; rfl
  have c1 : w2.cell? ⟨w.heap.size, 1, none⟩ = some (.string ⟨#[85, 49]⟩) := by rw [Lib.cell_of_heap HP2.out]; rfl
  have c2 : w2.cell? ⟨w.heap.size, 2, none⟩ = some (.string ⟨#[80, 49]⟩) := by rw [Lib.cell_of_heap HP2.out]; rfl
  have c3 : w2.cell? ⟨w.heap.size, 3, none⟩ = some (.int .i64 3) := by rw [Lib.cell_of_heap HP2.out]; rfl
  have c4 : w2.cell? ⟨w.heap.size, 4, none⟩ = some (.int .i64 4) := by rw [Lib.cell_of_heap HP2.out]; rfl
  have c5 : w2.cell? ⟨w.heap.size, 5, none⟩ = some (.int .i64 2) := by rw [Lib.cell_of_heap HP2.out]; rfl
  go_wp2_with fail
  clear c0 c1 c2 c3 c4 c5
  refine (wprobes_lit _ [exProbe] _ _ (HE.out.kp0 (K2.out.alloc _)) (one_rows w2 exProbe 54) (by simp) (by simpa using ⟨good2, short2⟩) file2).mono ?_
  rintro e w3 ⟨rfl, k⟩
  have K3 := Lib.hid ((K2.out.alloc _).trans k)
  clear k
  go_wp2_with fail
  refine (wrows_lit _ [] _ _ (HE.out.kp0 K3.out) (.inl ⟨_, _, rfl, rfl⟩) (by simp) (by simp) file0).mono ?_
  rintro e w4 ⟨rfl, k⟩
  have K4 := Lib.hid (K3.out.trans k)
  clear k
  go_wp2_with fail
  refine (readRows_any _ _ _ (HE.out.kp0 K4.out) (by simp) rd0).mono ?_
  rintro e w5 ⟨⟨v5, rfl, h5⟩, k⟩
  have K5 := Lib.hid (K4.out.trans k)
  obtain ⟨ao5, cap5, hv5⟩ := own_zero h5
  subst hv5
  clear k h5
  go_wp2_with fail
  refine (readRows_any _ _ _ (HE.out.kp0 K5.out) (by simp) rd3).mono ?_
  rintro e w6 ⟨⟨v6, rfl, h6⟩, k⟩
  have K6 := Lib.hid (K5.out.trans k)
  obtain ⟨g, cap, hv6, hcap, hc⟩ := own_one h6 rfl
  subst hv6
  have c0 : w6.cell? ⟨g, 0, none⟩ = some (.string ⟨#[97, 34]⟩) := hc 0 (by decide)
  have c1 : w6.cell? ⟨g, 1, none⟩ = some (.string ⟨#[]⟩) := hc 1 (by decide)
  have c2 : w6.cell? ⟨g, 2, none⟩ = some (.int .i64 0) := hc 2 (by decide)
  have c3 : w6.cell? ⟨g, 3, none⟩ = some (.int .i64 0) := hc 3 (by decide)
  have c4 : w6.cell? ⟨g, 4, none⟩ = some (.int .i64 0) := hc 4 (by decide)
  have c5 : w6.cell? ⟨g, 5, none⟩ = some (.bool true) := hc 5 (by decide)
  clear k h6 hc
  go_wp2_with fail
  refine (refuses_any _ 2 _ (HE.out.kp0 K6.out) (by simp) rb1).mono ?_
  rintro e w7 ⟨rfl, k⟩
  have K7 := Lib.hid (K6.out.trans k)
  clear k
  go_wp2_with fail
  refine (refuses_any _ 1 _ (HE.out.kp0 K7.out) (by simp) rb2).mono ?_
  rintro e w8 ⟨rfl, k⟩
  have K8 := Lib.hid (K7.out.trans k)
  clear k
  go_wp2_with fail
  refine (refuses_any _ 1 _ (HE.out.kp0 K8.out) (by simp) rb3).mono ?_
  rintro e w9 ⟨rfl, k⟩
  have K9 := Lib.hid (K8.out.trans k)
  clear k
  go_wp2_with fail
  refine (refuses_any _ 2 _ (HE.out.kp0 K9.out) (by simp) rb4).mono ?_
  rintro e w10 ⟨rfl, k⟩
  have K10 := Lib.hid (K9.out.trans k)
  clear k
  go_wp2_with fail
  go_ret
  exact ⟨rfl, K10.out⟩
end Go.Proofs.YtldjhjbodhhnbaaDoor
