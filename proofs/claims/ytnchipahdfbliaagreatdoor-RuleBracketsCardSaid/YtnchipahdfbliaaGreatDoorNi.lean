/- The program's indices of buses. Condition: a string of at most 2^47 bytes. -/
import Derived.Test.YtnchipahdfbliaaGreatDoorNm
namespace Go.Proofs.YtnchipahdfbliaaGreatDoor
open Go.RowKit

/-- What index returns. -/
def IdxIs (s : List UInt8) (w : World) (e : Ending) (w' : World) : Prop :=
  (∃ n b, e = .returned (.tuple #[.int .i64 n, .bool b]) ∧ ((b = true ∧ Ru.idx s = some n) ∨ (b = false ∧ Ru.idx s = none))) ∧ Kp w w' none
theorem parse_ok {s : List UInt8} {v : Int} (h : Lib.atoiAll s = .ok v) : Wr.parse s = if Lib.itoa v = s then some v else none := by unfold Wr.parse; rw [h]
theorem parse_no {s : List UInt8} (h : ∀ v, Lib.atoiAll s ≠ .ok v) : Wr.parse s = none := by
  unfold Wr.parse
  split
  · rename_i v hv; exact absurd hv (h v)
  · rfl
theorem idx_none {s : List UInt8} (h : Wr.parse s = none) : Ru.idx s = none := by unfold Ru.idx; rw [h]
theorem idx_some {s : List UInt8} {n : Int} (h : Wr.parse s = some n) : Ru.idx s = if 0 ≤ n ∧ n ≤ 999 then some n else none := by unfold Ru.idx; rw [h]

set_option maxHeartbeats 2000000 in
set_option maxRecDepth 100000 in
theorem index_any (s : List UInt8) (hs : s.length ≤ 140737488355328) (w : World) (he : Env w) : Calls Tryz.prog 114 #[str s] w (IdxIs s w) := by
  have ca := atoi_any s w he (by omega)
  have HE := Lib.hid he
  by_cases ho : ∃ v, Lib.atoiAll s = .ok v
  · obtain ⟨v, hv⟩ := ho
    have hr := Wr.atoi_range hv
    have hp := parse_ok hv
    have ca2 : Calls Tryz.prog 100 #[str s] w fun e w' => e = .returned (.tuple #[.int .i64 v, .nilIface]) ∧ Kp w w' none := ca.mono fun e w' ⟨h, hk⟩ => by
      rcases h with ⟨v', h1, rfl⟩ | ⟨v', N, h1, _⟩
      · rw [hv] at h1; injection h1 with h1; subst h1; exact ⟨rfl, hk⟩
      · exact absurd hv (h1 v)
    have HV := Lib.hid hv
    have HR := Lib.hid hr
    clear ca hv he
    by_cases h0 : 0 ≤ v
    · by_cases h9 : v ≤ 999
      · have ci := fun u (hu : Kp w u none) => itoa_any v u (HE.out.kp0 hu) HR.out
        by_cases heq : Lib.itoa v = s
        · rw [if_pos heq] at hp
          have hi : Ru.idx s = some v := by rw [idx_some hp, if_pos ⟨h0, h9⟩]
          have hb : (Lib.itoa v == s) = true := by rw [heq]; simp
          have HI := Lib.hid hi
          clear hi hp
          obtain ⟨t, ht⟩ : ∃ t, Lib.itoa v = t := ⟨_, rfl⟩
          rw [ht] at hb
          simp only [ht] at ci
          clear heq ht hr
          show Calls Tryz.prog 114 #[.string ⟨s.toArray⟩] w _
          go_enter Tryz.func114, Tryz.ntmps114
          go_wp2_with (first | (go_at_call 100; refine ca2.mono ?_; rintro e w1 ⟨rfl, hk1⟩) | (go_at_call 40; refine (ci _ hk1).mono ?_; rintro e w2 ⟨rfl, hk2⟩))
          go_ret2
          exact ⟨⟨v, true, rfl, .inl ⟨rfl, HI.out⟩⟩, hk1.trans hk2⟩
        · rw [if_neg heq] at hp
          have hi : Ru.idx s = none := idx_none hp
          have hb : (Lib.itoa v == s) = false := by simpa using heq
          have HI := Lib.hid hi
          clear hi hp
          obtain ⟨t, ht⟩ : ∃ t, Lib.itoa v = t := ⟨_, rfl⟩
          rw [ht] at hb
          simp only [ht] at ci
          clear heq ht hr
          show Calls Tryz.prog 114 #[.string ⟨s.toArray⟩] w _
          go_enter Tryz.func114, Tryz.ntmps114
          go_wp2_with (first | (go_at_call 100; refine ca2.mono ?_; rintro e w1 ⟨rfl, hk1⟩) | (go_at_call 40; refine (ci _ hk1).mono ?_; rintro e w2 ⟨rfl, hk2⟩))
          go_ret2
          exact ⟨⟨v, false, rfl, .inr ⟨rfl, HI.out⟩⟩, hk1.trans hk2⟩
      · have hi : Ru.idx s = none := by
          by_cases heq : Lib.itoa v = s
          · rw [if_pos heq] at hp; rw [idx_some hp, if_neg (by omega)]
          · rw [if_neg heq] at hp; exact idx_none hp
        have HI := Lib.hid hi
        clear hi hp hr
        show Calls Tryz.prog 114 #[.string ⟨s.toArray⟩] w _
        go_enter Tryz.func114, Tryz.ntmps114
        go_wp2_with (go_at_call 100; refine ca2.mono ?_; rintro e w1 ⟨rfl, hk1⟩)
        go_ret2
        exact ⟨⟨v, false, rfl, .inr ⟨rfl, HI.out⟩⟩, hk1⟩
    · have hi : Ru.idx s = none := by
        by_cases heq : Lib.itoa v = s
        · rw [if_pos heq] at hp; rw [idx_some hp, if_neg (by omega)]
        · rw [if_neg heq] at hp; exact idx_none hp
      have HI := Lib.hid hi
      clear hi hp hr
      show Calls Tryz.prog 114 #[.string ⟨s.toArray⟩] w _
      go_enter Tryz.func114, Tryz.ntmps114
      go_wp2_with (go_at_call 100; refine ca2.mono ?_; rintro e w1 ⟨rfl, hk1⟩)
      go_ret2
      exact ⟨⟨v, false, rfl, .inr ⟨rfl, HI.out⟩⟩, hk1⟩
  · have hn : ∀ v, Lib.atoiAll s ≠ .ok v := fun v hv => ho ⟨v, hv⟩
    have HI := Lib.hid (idx_none (parse_no hn))
    have ca2 : Calls Tryz.prog 100 #[str s] w fun e w' => (∃ v N, e = .returned (.tuple #[.int .i64 v, .iface 168 (.pointer (some ⟨N, 0, none⟩))])) ∧ Kp w w' none := ca.mono fun e w' ⟨h, hk⟩ => by
      rcases h with ⟨v', h1, _⟩ | ⟨v', N, _, rfl⟩
      · exact absurd h1 (hn v')
      · exact ⟨⟨v', N, rfl⟩, hk⟩
    clear ca ho hn he
    show Calls Tryz.prog 114 #[.string ⟨s.toArray⟩] w _
    go_enter Tryz.func114, Tryz.ntmps114
    go_wp2_with (go_at_call 100; refine ca2.mono ?_; rintro e w1 ⟨⟨v, N, rfl⟩, hk1⟩)
    go_ret2
    exact ⟨⟨v, false, rfl, .inr ⟨rfl, HI.out⟩⟩, hk1⟩
end Go.Proofs.YtnchipahdfbliaaGreatDoor
