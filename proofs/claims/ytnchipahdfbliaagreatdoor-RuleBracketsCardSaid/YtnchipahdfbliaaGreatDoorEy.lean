/- The program's Expand, whole, and Split. Condition: a string of at most 10^9 bytes. -/
import Derived.Test.YtnchipahdfbliaaGreatDoorEx
namespace Go.Proofs.YtnchipahdfbliaaGreatDoor
open Go.RowKit

theorem cut_len {s sep d r : List UInt8} {b : Bool} (h : Lib.cut s sep = (d, r, b)) : d.length ≤ s.length ∧ r.length ≤ s.length := by
  unfold Lib.cut at h
  split at h
  · injection h with h1 h; injection h with h2 _
    rw [← h1, ← h2]
    exact ⟨by rw [List.length_take]; omega, by rw [List.length_drop]; omega⟩
  · injection h with h1 h; injection h with h2 _
    rw [← h1, ← h2]; simp
theorem suffix_last (l : List UInt8) : Lib.hasSuffix l [93] = true ↔ l.getLast? = some 93 := by
  unfold Lib.hasSuffix
  rw [List.isSuffixOf_iff_suffix]
  constructor
  · rintro ⟨t, rfl⟩; simp
  · intro h
    obtain ⟨t, rfl⟩ := List.getLast?_eq_some_iff.1 h
    exact ⟨t, rfl⟩
theorem trim_last {l : List UInt8} (h : Lib.hasSuffix l [93] = true) : Lib.trimSuffix l [93] = l.dropLast := by
  unfold Lib.trimSuffix
  rw [if_pos h, List.dropLast_eq_take]; rfl
theorem bus_none {s : List UInt8} (hc : Wr.cut1 91 s = none) : Ru.bus s = none := by unfold Ru.bus; rw [hc]
theorem bus_noend {s name rst : List UInt8} (hc : Wr.cut1 91 s = some (name, rst)) (h : rst.getLast? ≠ some 93) : Ru.bus s = none := by
  unfold Ru.bus; rw [hc]; dsimp only
  split
  · rename_i e; exact absurd e h
  · rfl
theorem bus_end {s name rst : List UInt8} (hc : Wr.cut1 91 s = some (name, rst)) (h : rst.getLast? = some 93) : Ru.bus s = if Ru.nameR name then (Ru.ends rst.dropLast).map fun p => (name, p.1, p.2) else none := by
  unfold Ru.bus; rw [hc]; dsimp only; rw [h]; rfl
theorem expand_any (s : List UInt8) (hs : s.length ≤ 1000000000) (w : World) (he : Env w) : Calls Tryz.prog 87 #[str s] w (ExpIs (Ru.expand s) w) := by
  cases hn : Ru.nameR s with
  | true => unfold Ru.expand; rw [if_pos hn]; exact expand_name hs hn
  | false =>
    have e0 : Ru.expand s = (Ru.bus s).map fun p => Ru.members p.1 p.2.1 p.2.2 := by unfold Ru.expand; rw [hn]; rfl
    rw [e0]
    have hcut := Wr.cut_eq s 91
    cases hc1 : Wr.cut1 91 s with
    | none =>
      rw [hc1] at hcut
      rw [bus_none hc1]
      exact expand_nobr hs he hn hcut
    | some p =>
      obtain ⟨name, rst⟩ := p
      rw [hc1] at hcut
      have hl := cut_len hcut
      cases h2 : Lib.hasSuffix rst [93] with
      | false =>
        have hno : rst.getLast? ≠ some 93 := fun e => by rw [(suffix_last rst).2 e] at h2; cases h2
        rw [bus_noend hc1 hno]
        exact expand_noend hs he hn hcut (by omega) h2
      | true =>
        have hl9 := (suffix_last rst).1 h2
        have hd := trim_last h2
        rw [bus_end hc1 hl9]
        cases h3 : Ru.nameR name with
        | false => exact expand_noname hs he hn hcut (by omega) (by omega) h2 h3
        | true =>
          simp only [if_true]
          have hil : rst.dropLast.length ≤ 1000000000 := by rw [List.length_dropLast]; omega
          unfold Ru.ends
          cases hc2 : Lib.cut rst.dropLast [46, 46] with
          | mk f q =>
            obtain ⟨t, sev⟩ := q
            have hl2 := cut_len hc2
            dsimp only
            cases sev with
            | true =>
              simp only [if_true]
              cases h5 : Ru.idx f with
              | none => exact expand_no1T hs he hn hcut (by omega) (by omega) h2 h3 hd hil (by omega) (by omega) hc2 h5
              | some a =>
                cases h6 : Ru.idx t with
                | none => exact expand_no2T hs he hn hcut (by omega) (by omega) h2 h3 hd hil (by omega) (by omega) hc2 h5 h6
                | some b =>
                  dsimp only
                  by_cases h7 : a - b ≤ 15 ∧ b - a ≤ 15
                  · rw [if_pos h7]
                    exact expand_busT hs he hn hcut (by omega) (by omega) h2 h3 hd hil (by omega) (by omega) hc2 h5 h6 h7
                  · rw [if_neg h7]
                    exact expand_farT hs he hn hcut (by omega) (by omega) h2 h3 hd hil (by omega) (by omega) hc2 h5 h6 h7
            | false =>
              simp only [Bool.false_eq_true, if_false]
              cases h5 : Ru.idx f with
              | none => exact expand_no1F hs he hn hcut (by omega) (by omega) h2 h3 hd hil (by omega) (by omega) hc2 h5
              | some a =>
                dsimp only
                rw [if_pos (by omega)]
                exact expand_busF hs he hn hcut (by omega) (by omega) h2 h3 hd hil (by omega) (by omega) hc2 h5

/-! ### strings.Split at one byte -/
theorem index_one {l : List UInt8} {e : UInt8} : (∃ d r, Wr.cut1 e l = some (d, r) ∧ Lib.index l [e] = d.length) ∨ (Wr.cut1 e l = none ∧ Lib.index l [e] = -1) := by
  have h := Wr.cut_eq l e
  unfold Lib.cut at h
  cases hc : Wr.cut1 e l with
  | none =>
    rw [hc] at h
    right
    refine ⟨rfl, ?_⟩
    split at h
    · injection h with _ h; injection h with _ h; cases h
    · rcases Lib.index_spec l [e] with ⟨h1, _⟩ | ⟨i, h1, _⟩
      · exact h1
      · omega
  | some p =>
    obtain ⟨d, r⟩ := p
    rw [hc] at h
    left
    split at h
    · rename_i h0
      injection h with h1 _
      have hr := Lib.index_room l [e] h0
      refine ⟨d, r, rfl, ?_⟩
      have h2 := congrArg List.length h1
      rw [List.length_take] at h2
      simp at hr
      omega
    · injection h with _ h; injection h with _ h; cases h
theorem splitK_pieces (e : UInt8) : ∀ (n : Nat) (l : List UInt8), l.length ≤ n → Lib.splitK [e] 0 (Lib.count l [e]) l = Ru.pieces e l
  | n, l, hn => by
    rcases index_one (l := l) (e := e) with ⟨d, r, hc, hi⟩ | ⟨hc, hi⟩
    · obtain ⟨hl, hd⟩ := Wr.cut1_some hc
      have hcnt := Lib.count_hit (s := l) (sub := [e]) (i := d.length) (by simp) hi
      have e1 : l.drop (d.length + [e].length) = r := by rw [hl]; simp
      have e2 : l.take d.length = d := by rw [hl]; simp
      rw [e1] at hcnt
      have hlt : r.length < n := by
        have := congrArg List.length hl
        simp at this; omega
      obtain ⟨n, rfl⟩ : ∃ m, n = m + 1 := ⟨n - 1, by omega⟩
      have ih := splitK_pieces e n r (by omega)
      rw [hcnt, Nat.add_comm, Lib.splitK, hi]
      have hne : ((d.length : Int) == -1) = false := by rw [beq_eq_false_iff_ne]; omega
      rw [hne]
      simp only [Bool.false_eq_true, if_false, Int.toNat_natCast, Nat.add_zero]
      rw [e1, e2, ih, hl, Ru.pieces_app e d r hd]
    · have hcnt := Lib.count_miss (s := l) (sub := [e]) hi
      rw [hcnt, Lib.splitK, Ru.pieces_plain e l (Wr.cut1_none.1 hc)]
theorem split_cells (e : UInt8) (s : List UInt8) : (Lib.splitB ⟨#[e]⟩ 0 (Lib.countB ⟨s.toArray⟩ ⟨#[e]⟩) ⟨s.toArray⟩).map Value.string = (Ru.pieces e s).map str := by
  have h := Lib.splitB_data ⟨#[e]⟩ 0 (Lib.countB ⟨s.toArray⟩ ⟨#[e]⟩) ⟨s.toArray⟩
  have h2 := splitK_pieces e s.length s (Nat.le_refl _)
  have h3 : (Lib.splitB ⟨#[e]⟩ 0 (Lib.countB ⟨s.toArray⟩ ⟨#[e]⟩) ⟨s.toArray⟩).map (·.data.toList) = Ru.pieces e s := h.trans h2
  rw [← h3, List.map_map]
  apply List.map_congr_left
  intro x _
  rfl
theorem split_len (e : UInt8) (s : List UInt8) : Lib.countB ⟨s.toArray⟩ ⟨#[e]⟩ + 1 = (Ru.pieces e s).length := by
  have h := congrArg List.length (split_cells e s)
  rw [List.length_map, List.length_map, Lib.splitB_all ⟨#[e]⟩ (by show 1 ≤ 1; omega) 0 _ _ rfl] at h
  exact h
/-- strings.Split at one byte. -/
theorem split_any (e : UInt8) (s : List UInt8) (hs : s.length ≤ 1000000000) (w : World) (he : Env w) :
    Calls Tryz.prog 51 #[str s, .string ⟨#[e]⟩] w fun E w' => E = .returned (.slice (some ⟨w.heap.size, 0, none⟩) (Ru.pieces e s).length (Ru.pieces e s).length) ∧ w' = w.alloc (.cells ((Ru.pieces e s).map str).toArray 9) := by
  obtain ⟨m, hm⟩ := he.mx
  have c := Tryz.strings_Split ⟨s.toArray⟩ ⟨#[e]⟩ m w (by rw [size_str]; omega) hm (by show 1 ≤ 1; omega)
  rw [split_cells, split_len] at c
  exact c
end Go.Proofs.YtnchipahdfbliaaGreatDoor
