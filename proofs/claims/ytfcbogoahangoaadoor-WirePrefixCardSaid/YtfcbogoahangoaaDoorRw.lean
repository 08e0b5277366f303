/- The reference's number, whatever is read. Conditions: the string that is read is shorter than 2^31 bytes. -/
import Derived.Test.YtfcbogoahangoaaDoorRt
import Derived.Test.YtfcbogoahangoaaDoorRv
import Derived.Test.YtfcbogoahangoaaDoorRx
namespace Go.Proofs.YtfcbogoahangoaaDoor
open Go.RowKit

theorem rnum_any (q : Nat) (S : List UInt8) (st : Option (List UInt8)) (e : UInt8) (en : Int) (w : World) (he : (e.toNat : Int) = en) (hS : S.length < 2147483648) (h : RfIs w q S st) : Calls Tryd.prog 43 #[.pointer (some ⟨q, 0, none⟩), .int .u8 en] w (RNumEnds q S w (st.bind (Wr.pNum e))) := by
  cases st with
  | none => exact rnum_bad q S en w h
  | some l =>
    obtain ⟨p, hp, hl, h⟩ := h
    obtain rfl := hl l rfl
    simp only [Option.bind_some, Wr.pNum]
    cases hc : Wr.cut1 e (S.drop p) with
    | none =>
      have hno : ∀ i, i < S.length → p ≤ i → S[i]? ≠ some e := by
        intro i hi hpi hx
        refine Wr.cut1_none.1 hc (List.mem_iff_getElem?.2 ⟨i - p, ?_⟩)
        rw [List.getElem?_drop, show p + (i - p) = i by omega]; exact hx
      by_cases hJ : S.length ≤ p + 21
      · exact rnum_end q p S e en w he hS hp h hJ hno
      · exact rnum_far q p S e en w he hS h (by omega) (fun i hi hpi _ => hno i hi hpi)
    | some pr =>
      obtain ⟨d, t⟩ := pr
      obtain ⟨hcat, hne⟩ := Wr.cut1_some hc
      have hlen : S.length = p + d.length + 1 + t.length := by have := congrArg List.length hcat; simp at this; omega
      have hno : ∀ i, i < p + d.length → p ≤ i → S[i]? ≠ some e := by
        intro i hi hpi hx
        have := congrArg (fun l => l[i - p]?) hcat
        simp only [List.getElem?_drop] at this
        rw [show p + (i - p) = i by omega, hx, List.getElem?_append_left (by omega)] at this
        exact hne (List.mem_of_getElem? this.symm)
      simp only [Option.bind_some]
      by_cases hd21 : d.length ≤ 21
      · have hat : S[p + d.length]? = some e := by
          have := congrArg (fun l => l[d.length]?) hcat
          simpa [List.getElem?_drop] using this
        have hdd : (S.take (p + d.length)).drop p = d := by rw [List.drop_take, hcat]; simp
        have htt : S.drop (p + d.length + 1) = t := by
          have := congrArg (List.drop (d.length + 1)) hcat
          rw [List.drop_drop] at this
          simpa [Nat.add_assoc] using this
        rw [← htt]
        cases hneg : Wr.neg d with
        | true =>
          cases hd : d with
          | nil => rw [hd] at hneg; cases hneg
          | cons x r =>
            rw [hd] at hneg
            simp only [Wr.neg, List.head?_cons, beq_iff_eq, Option.some.injEq] at hneg
            subst hneg
            rw [hd] at hdd hat hno hlen hd21
            exact rnum_negA q p _ S _ e en w he hS h (by omega) (by omega) (by omega) hno hat hdd r rfl
        | false =>
          rcases Nat.eq_zero_or_pos d.length with hd0 | hd0
          · exact rnum_posE q p _ S d e en w he hS h (by omega) (by omega) (by omega) hno hat hdd hd0 hneg
          · by_cases h21 : p + d.length < p + 21
            · exact rnum_posL q p _ S d e en w he hS h (by omega) (by omega) (by omega) hno hat hdd hd0 h21 hneg
            · exact rnum_posF q p _ S d e en w he hS h (by omega) (by omega) (by omega) hno hat hdd hd0 h21 hneg
      · rw [Wr.long_none (by omega)]
        refine rnum_far q p S e en w he hS h (by omega) (fun i hi hpi hi21 => hno i (by omega) hpi)

end Go.Proofs.YtfcbogoahangoaaDoor
