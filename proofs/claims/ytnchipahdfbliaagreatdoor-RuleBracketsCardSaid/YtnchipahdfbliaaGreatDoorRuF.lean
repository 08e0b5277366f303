/- The plain law of the rules, sixth part: what is read is no larger than its words. No program is in sight; no condition. -/
import Derived.Test.YtnchipahdfbliaaGreatDoorRuC
import Derived.Test.YtnchipahdfbliaaGreatDoorRuD
namespace Go.Proofs.YtnchipahdfbliaaGreatDoor.Ru
open Go Go.Proofs.YtnchipahdfbliaaGreatDoor

/-- Texts of a machine's size. -/
inductive Lim : Cond → Prop
  | mk (op : Int) (t : Bytes) (n : Int) (b : Box) (l : List Cond) : t.length ≤ 1000000000 → (∀ c ∈ l, Lim c) → Lim (.mk op t n b l)
def WLen (ws : Ws) : Prop := ∀ x ∈ ws, x.length ≤ 1000000000
theorem lim_leaf {op : Int} {t : Bytes} {n : Int} {b : Box} (h : t.length ≤ 1000000000) : Lim (leaf op t n b) := .mk _ _ _ _ _ h (by simp)
/-- A reader takes words, at least as many as the condition is large. -/
def Fits (rd : Ws → Option (Cond × Ws)) : Prop := ∀ ws c r, rd ws = some (c, r) → ∃ p, ws = p ++ r ∧ size c ≤ p.length ∧ (WLen p → Lim c)
theorem next_takes {ws r : Ws} {x : Bytes} (h : next ws = some (x, r)) : ws = x :: r := (next_len h).1
theorem number_takes {ws r : Ws} {n : Int} (h : number ws = some (n, r)) : ∃ x, ws = x :: r := by
  unfold number at h
  cases hn : next ws with
  | none => rw [hn] at h; cases h
  | some p =>
    obtain ⟨x, t⟩ := p
    rw [hn] at h
    dsimp only at h
    cases hm : num x with
    | none => rw [hm] at h; cases h
    | some k => rw [hm] at h; injection h with h; injection h with _ h2; subst h2; exact ⟨x, next_takes hn⟩
theorem must_takes {k : Bytes} {ws r : Ws} (h : must k ws = some r) : ∃ x, ws = x :: r := by
  unfold must at h
  cases hn : next ws with
  | none => rw [hn] at h; cases h
  | some p =>
    obtain ⟨x, t⟩ := p
    rw [hn] at h
    dsimp only at h
    split at h
    · injection h with h; subst h; exact ⟨x, next_takes hn⟩
    · cases h
theorem four_takes {ws r : Ws} {b : Box} (h : four ws = some (b, r)) : ∃ p, ws = p ++ r := by
  unfold four at h
  cases h0 : number ws with
  | none => rw [h0] at h; cases h
  | some p0 =>
    rw [h0] at h; simp only [Option.bind_some] at h
    cases h1 : number p0.2 with
    | none => rw [h1] at h; cases h
    | some p1 =>
      rw [h1] at h; simp only [Option.bind_some] at h
      cases h2 : number p1.2 with
      | none => rw [h2] at h; cases h
      | some p2 =>
        rw [h2] at h; simp only [Option.bind_some] at h
        cases h3 : number p2.2 with
        | none => rw [h3] at h; cases h
        | some p3 =>
          rw [h3] at h
          injection h with h; injection h with _ h4; subst h4
          obtain ⟨x0, e0⟩ := number_takes h0
          obtain ⟨x1, e1⟩ := number_takes h1
          obtain ⟨x2, e2⟩ := number_takes h2
          obtain ⟨x3, e3⟩ := number_takes h3
          exact ⟨[x0, x1, x2, x3], by rw [e0, e1, e2, e3]; rfl⟩
theorem sizes_mk1 {op : Int} : ∀ {l : List Cond}, l ≠ [] → size (mk1 op l) ≤ sizes l + (if 2 ≤ l.length then 1 else 0)
  | [], h => absurd rfl h
  | [c], _ => by simp [mk1, sizes]
  | c :: d :: l, _ => by simp [mk1, size_mk]
theorem lim_mk1 {op : Int} : ∀ {l : List Cond}, (∀ c ∈ l, Lim c) → Lim (mk1 op l)
  | [], _ => .mk _ _ _ _ _ (by simp) (by simp)
  | [c], h => h c (by simp)
  | c :: d :: l, h => .mk _ _ _ _ _ (by simp) h
theorem more_fits {word : Bytes} {op : Int} {rd : Ws → Option (Cond × Ws)} (hr : Fits rd) : ∀ (k : Nat) (l : List Cond) (ws : Ws) (c : Cond) (r : Ws), l ≠ [] → more word op rd k l ws = some (c, r) → ∃ p, ws = p ++ r ∧ size c ≤ sizes l + p.length + (if 2 ≤ l.length then 1 else 0) ∧ (WLen p → (∀ d ∈ l, Lim d) → Lim c)
  | 0, l, ws, c, r, hl, h => by
    injection h with h; injection h with h1 h2; subst h1; subst h2
    exact ⟨[], rfl, by have := sizes_mk1 (op := op) hl; simp; omega, fun _ hd => lim_mk1 hd⟩
  | k + 1, l, ws, c, r, hl, h => by
    rw [more] at h
    split at h
    · rename_i hh
      split at h
      · cases h
      · rename_i c1 r1 hc
        obtain ⟨p1, e1, s1, l1⟩ := hr _ _ _ hc
        obtain ⟨p2, e2, s2, l2⟩ := more_fits hr k _ _ _ _ (by simp) h
        have hw : ws = word :: ws.tail := by
          cases ws with
          | nil => cases hh
          | cons x t => simp at hh; rw [hh]; rfl
        refine ⟨word :: (p1 ++ p2), by rw [hw, e1, e2]; simp, ?_, fun hp hd => l2 (fun x hx => hp x (by simp [hx])) ?_⟩
        · rw [sizes_app] at s2
          simp only [sizes, List.length_append, List.length_cons, List.length_nil, Nat.add_zero] at s2 ⊢
          have h0 : 1 ≤ l.length := by cases l; exact absurd rfl hl; simp
          rw [if_pos (by omega)] at s2
          split <;> omega
        · intro d hd2
          rcases List.mem_append.1 hd2 with hd2 | hd2
          · exact hd d hd2
          · rw [List.mem_singleton] at hd2; subst hd2
            exact l1 (fun x hx => hp x (by simp [hx]))
    · injection h with h; injection h with h1 h2; subst h1; subst h2
      exact ⟨[], rfl, by have := sizes_mk1 (op := op) hl; simp; omega, fun _ hd => lim_mk1 hd⟩
theorem lst_fits {word : Bytes} {op : Int} {rd : Ws → Option (Cond × Ws)} (hr : Fits rd) : Fits (lst word op rd) := fun ws c r h => by
  unfold lst at h
  split at h
  · cases h
  · rename_i c1 r1 hc
    obtain ⟨p1, e1, s1, l1⟩ := hr _ _ _ hc
    obtain ⟨p2, e2, s2, l2⟩ := more_fits hr _ _ _ _ _ (by simp) h
    refine ⟨p1 ++ p2, by rw [e1, e2]; simp, ?_, fun hp => l2 (fun x hx => hp x (by simp [hx])) ?_⟩
    · simp only [sizes, List.length_append, List.length_cons, List.length_nil, Nat.add_zero] at s2 ⊢
      rw [if_neg (by omega)] at s2; omega
    · intro d hd; rw [List.mem_singleton] at hd; subst hd; exact l1 (fun x hx => hp x (by simp [hx]))
theorem fac_fits : ∀ n, Fits (fac n)
  | 0 => fun ws a r h => by cases h
  | n + 1 => fun ws a r h => by
    have ih := fac_fits n
    rw [fac] at h
    split at h
    · cases h
    · rename_i x t hn
      have h0 := next_takes hn
      have leaf1 : ∀ {p : List Bytes} {op : Int} {tx : Bytes} {m : Int} {b : Box}, 1 ≤ p.length → (WLen p → tx.length ≤ 1000000000) → size (leaf op tx m b) ≤ p.length ∧ (WLen p → Lim (leaf op tx m b)) := fun h1 h2 => ⟨by simp [leaf, size, sizes]; omega, fun hp => lim_leaf (h2 hp)⟩
      split at h
      · cases hx : next t with
        | none => rw [hx] at h; cases h
        | some p => rw [hx] at h; injection h with h; injection h with h1 h2; subst h1; subst h2; exact ⟨[x, p.1], by rw [h0, next_takes hx]; rfl, leaf1 (by simp) (fun hp => hp _ (by simp))⟩
      split at h
      · cases hx : next t with
        | none => rw [hx] at h; cases h
        | some p => rw [hx] at h; injection h with h; injection h with h1 h2; subst h1; subst h2; exact ⟨[x, p.1], by rw [h0, next_takes hx]; rfl, leaf1 (by simp) (fun hp => hp _ (by simp))⟩
      have num1 : ∀ {op : Int}, ((number t).map fun p => (leaf op [] p.1 .none, p.2)) = some (a, r) → ∃ p, ws = p ++ r ∧ size a ≤ p.length ∧ (WLen p → Lim a) := fun {op} h => by
        cases hx : number t with
        | none => rw [hx] at h; cases h
        | some p =>
          rw [hx] at h; injection h with h; injection h with h1 h2; subst h1; subst h2
          obtain ⟨y, hy⟩ := number_takes hx
          exact ⟨[x, y], by rw [h0, hy]; rfl, leaf1 (by simp) (by simp)⟩
      split at h; · exact num1 h
      split at h; · exact num1 h
      split at h; · exact num1 h
      split at h
      · injection h with h; injection h with h1 h2; subst h1; subst h2
        exact ⟨[x], by rw [h0]; rfl, leaf1 (by simp) (by simp)⟩
      split at h
      · cases hx : four t with
        | none => rw [hx] at h; cases h
        | some p =>
          rw [hx] at h; injection h with h; injection h with h1 h2; subst h1; subst h2
          obtain ⟨y, hy⟩ := four_takes hx
          exact ⟨x :: y, by rw [h0, hy]; rfl, leaf1 (by simp) (by simp)⟩
      split at h
      · cases hx : fac n t with
        | none => rw [hx] at h; cases h
        | some p =>
          rw [hx] at h; injection h with h; injection h with h1 h2; subst h1; subst h2
          obtain ⟨y, hy, s, l⟩ := ih _ _ _ hx
          refine ⟨x :: y, by rw [h0, hy]; rfl, by simp [size, sizes]; omega, fun hp => .mk _ _ _ _ _ (by simp) fun d hd => ?_⟩
          rw [List.mem_singleton] at hd; subst hd; exact l (fun z hz => hp z (by simp [hz]))
      split at h
      · cases hx : orc (fac n) t with
        | none => rw [hx] at h; cases h
        | some p =>
          rw [hx] at h
          simp only [Option.bind_some] at h
          cases hm : must kwR p.2 with
          | none => rw [hm] at h; cases h
          | some q =>
            rw [hm] at h
            injection h with h; injection h with h1 h2; subst h1; subst h2
            obtain ⟨y, hy, s, l⟩ := lst_fits (lst_fits ih) _ _ _ hx
            obtain ⟨z, hz⟩ := must_takes hm
            exact ⟨x :: (y ++ [z]), by rw [h0, hy, hz]; simp, by simp; omega, fun hp => l (fun u hu => hp u (by simp [hu]))⟩
      · cases h
theorem orc_fits (n : Nat) : Fits (orc (fac n)) := lst_fits (lst_fits (fac_fits n))
/-- A rule that is read: its size, and that of its texts. -/
theorem lineW_fits {ws : Ws} {q : Rule} (h : lineW ws = some q) (hw : WLen ws) : q.name.length ≤ 1000000000 ∧ Lim q.a ∧ Lim q.b ∧ size q.a ≤ ws.length ∧ size q.b ≤ ws.length := by
  unfold lineW at h
  have lens : ∀ {p r : Ws}, ws = p ++ r → r.length ≤ ws.length ∧ WLen r := fun e => ⟨by rw [e]; simp, fun x hx => hw x (by rw [e]; simp [hx])⟩
  cases h0 : must kwRule ws with
  | none => rw [h0] at h; cases h
  | some r0 =>
    rw [h0] at h; simp only [Option.bind_some] at h
    obtain ⟨y0, e0⟩ := must_takes h0
    cases h1 : next r0 with
    | none => rw [h1] at h; cases h
    | some p1 =>
      obtain ⟨nm, r1⟩ := p1
      rw [h1] at h; simp only [Option.bind_some] at h
      have e1 := next_takes h1
      cases h2 : number r1 with
      | none => rw [h2] at h; cases h
      | some p2 =>
        obtain ⟨prio, r2⟩ := p2
        rw [h2] at h; simp only [Option.bind_some] at h
        obtain ⟨y2, e2⟩ := number_takes h2
        cases h3 : next r2 with
        | none => rw [h3] at h; cases h
        | some p3 =>
          obtain ⟨wh, r3⟩ := p3
          rw [h3] at h; simp only [Option.bind_some] at h
          have e3 := next_takes h3
          cases h4 : number r3 with
          | none => rw [h4] at h; cases h
          | some p4 =>
            obtain ⟨v, r4⟩ := p4
            rw [h4] at h; simp only [Option.bind_some] at h
            obtain ⟨y4, e4⟩ := number_takes h4
            cases h5 : must kwWhen r4 with
            | none => rw [h5] at h; cases h
            | some r5 =>
              rw [h5] at h; simp only [Option.bind_some] at h
              obtain ⟨y5, e5⟩ := must_takes h5
              cases h6 : orc (fac r5.length) r5 with
              | none => rw [h6] at h; cases h
              | some p6 =>
                obtain ⟨ca, r6⟩ := p6
                rw [h6] at h; simp only [Option.bind_some] at h
                obtain ⟨pa, e6, sa, la⟩ := orc_fits _ _ _ _ h6
                have ea : ws = [y0, nm, y2, wh, y4, y5] ++ r5 := by rw [e0, e1, e2, e3, e4, e5]; rfl
                have hnm := hw nm (by rw [ea]; simp)
                obtain ⟨l5, w5⟩ := lens ea
                have hsa : size ca ≤ ws.length := by rw [e6, List.length_append] at l5; omega
                have hla := la (fun x hx => w5 x (by rw [e6]; simp [hx]))
                split at h
                · cases h7 : must kwTo r6 with
                  | none => rw [h7] at h; cases h
                  | some r7 =>
                    rw [h7] at h; simp only [Option.bind_some] at h
                    obtain ⟨y7, e7⟩ := must_takes h7
                    cases h8 : orc (fac r7.length) r7 with
                    | none => rw [h8] at h; cases h
                    | some p8 =>
                      obtain ⟨cb, r8⟩ := p8
                      rw [h8] at h; simp only [Option.bind_some] at h
                      obtain ⟨pb, e8, sb, lb⟩ := orc_fits _ _ _ _ h8
                      split at h
                      · injection h with h; subst h
                        have eb : ws = ([y0, nm, y2, wh, y4, y5] ++ pa ++ [y7]) ++ r7 := by rw [ea, e6, e7]; simp
                        obtain ⟨l7, w7⟩ := lens eb
                        exact ⟨hnm, hla, lb (fun x hx => w7 x (by rw [e8]; simp [hx])), hsa, by show size cb ≤ ws.length; rw [e8, List.length_append] at l7; omega⟩
                      · cases h
                · split at h
                  · injection h with h; subst h
                    exact ⟨hnm, hla, lim_leaf (by simp), hsa, by rw [ea]; simp [cAny, size, sizes]⟩
                  · cases h
end Go.Proofs.YtnchipahdfbliaaGreatDoor.Ru
