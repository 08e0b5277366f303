/- Valid drawings of numbers are written without an error, and different lists have different files. Condition: the library's table of powers. -/
import Derived.Test.YtggplbenliaodaaGreatDoorLz
import Derived.Test.YtggplbenliaodaaGreatDoorPlF
namespace Go.Proofs.YtggplbenliaodaaGreatDoor
open Go.RowKit

theorem fold_len (rs : List Int) (hrs : rs.length ≤ 990) (ds : List Pl.Dr) : ∀ (st : Pl.St) (_ : ∀ d ∈ ds, Pl.chk d.s = 0), (ds.foldl (Pl.step rs) st).t.length ≤ st.t.length + 4030 * ds.length := by
  induction ds with
  | nil => intro st _; simp
  | cons d ds ih =>
    intro st hd
    rw [List.foldl_cons, List.length_cons]
    have h1 := ih (Pl.step rs st d) (fun x hx => hd x (List.mem_cons_of_mem _ hx))
    have h2 := shapeT_length (hd d List.mem_cons_self)
    have h3 := selT_length rs st.ap d.s (by have := num_le rs d.s.r; omega)
    have h4 := polT_length st.c d.clear
    have h5 : (Pl.step rs st d).t.length = st.t.length + (Pl.polT st.c d.clear).length + (Pl.selT rs st.ap d.s).length + (Pl.shapeT d.s).length := by unfold Pl.step; dsimp only; simp only [List.length_append]
    omega
theorem write_fine {ds : List Pl.Dr} (hd : ∀ d ∈ ds, Pl.Fine d.s) (hl : ds.length ≤ 10) : Pl.write ds = (Pl.fileT ds, 0) ∧ (Pl.fileT ds).length ≤ 262144 ∧ Pl.firstBad ds = 0 := by
  have h0 : Pl.firstBad ds = 0 := Pl.firstBad_zero.2 fun d h => (hd d h).1
  have h1 := Pl.radii_length ds
  have h2 : (Pl.fileT ds).length ≤ 262144 := by
    have h3 := start_length (Pl.radii ds) (by omega) (radii_range h0)
    have h4 := fold_len (Pl.radii ds) (by omega) ds ⟨Pl.start (Pl.radii ds), false, 0⟩ (fun d h => (hd d h).1)
    dsimp only at h4
    unfold Pl.fileT Pl.runTo
    rw [List.take_length, List.length_append, List.length_cons, List.length_cons, List.length_cons, List.length_cons, List.length_cons, List.length_nil]
    omega
  exact ⟨write_ok h0 (by omega) (by omega), h2, h0⟩
/-- One comparison: what is written of the list, and whether it is the first one. -/
def OneCmp (ao : Option Addr) (n cap : Nat) (T0 : List UInt8) (V : World) (u : Value) : Prop := ∃ (T : List UInt8) (r : Bool), decide (T0 = T) = r ∧ (∀ U, Kp V U none → Calls Tryz.prog 9 #[u] U fun E w' => E = .returned (.tuple #[.string ⟨T.toArray⟩, .int .i64 0]) ∧ Kp U w' none) ∧ ∀ U, Kp V U none → Calls Tryz.prog 13 #[.slice ao n cap, u] U fun E w' => E = .returned (.bool r) ∧ Kp U w' none
theorem OneCmp.keep {ao : Option Addr} {n cap : Nat} {T0 : List UInt8} {V U : World} {u : Value} (h : OneCmp ao n cap T0 V u) (k : Kp V U none) : OneCmp ao n cap T0 U u := by
  obtain ⟨T, r, h1, h2, h3⟩ := h
  exact ⟨T, r, h1, fun X kx => h2 X (k.trans kx), fun X kx => h3 X (k.trans kx)⟩
theorem one_any (ts xs : List DT) (n m : Nat) (hn : ts.length = n) (hm : xs.length = m) (hn8 : n ≤ 10) (hm8 : m ≤ 10) (ao xo : Option Addr) (cap xc : Nat) (V : World) (he : Env V) (ha : LiesAt 4 dtC V ao cap ts) (hb : LiesAt 4 dtC V xo xc xs)
    (fa : ∀ z ∈ ts, LiesAt 7 edC V z.ea z.ec z.d.s.es ∧ Pl.Fine z.d.s) (fb : ∀ z ∈ xs, LiesAt 7 edC V z.ea z.ec z.d.s.es ∧ Pl.Fine z.d.s) : OneCmp ao n cap (Pl.fileT (ts.map (·.d))) V (.slice xo m xc) := by
  have q1 : ∀ d ∈ ts.map (·.d), Pl.Fine d.s := fun d hd => by obtain ⟨z, hz, rfl⟩ := List.mem_map.1 hd; exact (fa z hz).2
  have q2 : ∀ d ∈ xs.map (·.d), Pl.Fine d.s := fun d hd => by obtain ⟨z, hz, rfl⟩ := List.mem_map.1 hd; exact (fb z hz).2
  have w2 := (write_fine q2 (by rw [List.length_map, hm]; exact hm8)).1
  refine ⟨Pl.fileT (xs.map (·.d)), decide (ts.map (·.d) = xs.map (·.d)), ?_, fun U ku => ?_, fun U ku => ?_⟩
  · refine decide_eq_decide.2 ⟨fun h => ?_, fun h => by rw [h]⟩
    exact Pl.file_inj (fun d hd => (q1 d hd).1) (fun d hd => (q2 d hd).1) h
  · have h := write_any (xs.map (·.d)) m (by rw [List.length_map, hm]) xo xc U (he.kp0 ku) ((drs_lies hb (fun z hz => (fb z hz).1)).keep ku) (by omega)
    refine h.mono fun E W hw => ?_
    unfold WriteIs at hw
    rw [w2] at hw
    exact hw
  · exact dsame_any ts xs n m hn hm ao xo cap xc U (ha.keep ku) (hb.keep ku) (fun z hz => ⟨(fa z hz).1.keep ku, by have := (fa z hz).2.2.1; omega⟩) (fun z hz => ⟨(fb z hz).1.keep ku, by have := (fb z hz).2.2.1; omega⟩) (by omega) (by omega)
theorem ba_beq (a b : List UInt8) : (a == b) = decide (a = b) := by rw [Bool.eq_iff_iff]; simp
theorem wr_self (ts : List DT) (n : Nat) (hn : ts.length = n) (hn8 : n ≤ 10) (ao : Option Addr) (cap : Nat) (V : World) (he : Env V) (ha : LiesAt 4 dtC V ao cap ts) (fa : ∀ z ∈ ts, LiesAt 7 edC V z.ea z.ec z.d.s.es ∧ Pl.Fine z.d.s) :
    Calls Tryz.prog 9 #[.slice ao n cap] V fun E w' => E = .returned (.tuple #[.string ⟨(Pl.fileT (ts.map (·.d))).toArray⟩, .int .i64 0]) ∧ Kp V w' none := by
  have q1 : ∀ d ∈ ts.map (·.d), Pl.Fine d.s := fun d hd => by obtain ⟨z, hz, rfl⟩ := List.mem_map.1 hd; exact (fa z hz).2
  have w1 := (write_fine q1 (by rw [List.length_map, hn]; exact hn8)).1
  have h := write_any (ts.map (·.d)) n (by rw [List.length_map, hn]) ao cap V he (drs_lies ha (fun z hz => (fa z hz).1)) (by omega)
  refine h.mono fun E W hw => ?_
  unfold WriteIs at hw
  rw [w1] at hw
  exact hw
theorem flat_set1 (c : Bool) : ∀ (ts : List DT) (j : Nat) (h : j < ts.length), (ts.flatMap dtC).set (j * 4 + 3) (.bool c) = (ts.set j ⟨⟨ts[j].d.s, c⟩, ts[j].ea, ts[j].ec⟩).flatMap dtC
  | [], _, h => by simp at h
  | z :: ts, 0, _ => by simp [dtC]
  | z :: ts, j + 1, h => by
    have ih := flat_set1 c ts j (by simpa using h)
    have h1 : (j + 1) * 4 + 3 - (dtC z).length = j * 4 + 3 := by simp [dtC]; omega
    rw [List.flatMap_cons, List.set_append_right _ _ (by simp [dtC]; omega), h1, ih]
    simp
end Go.Proofs.YtggplbenliaodaaGreatDoor
