/- RectsNormal's second form: bytes out of an argument, with their number. No condition. -/
import Derived.Test.YtpakiabnhdoijaaLf
import Derived.Test.YtpakiabnhdoijaaL3
import Derived.JoinedCond
namespace Go.Proofs.Ytpakiabnhdoijaa
open Go.ChangeShapes Go.WideShapes Go.ChangeAt Go.RowKit

/-! ### The bulk of a reading -/
theorem bulk_pos {H : Type} : ∀ d : DataW H, 0 < Rows.uptoBulk d
  | .lit (.string _) => by simp [Rows.uptoBulk]
  | .lit (.int _ _) => by simp [Rows.uptoBulk]
  | .lit (.bool _) => by simp [Rows.uptoBulk]
  | .lit _ => by unfold Rows.uptoBulk; split <;> simp_all
  | .nil => by simp [Rows.uptoBulk]
  | .ptr _ => by simp [Rows.uptoBulk]
  | .slice _ _ => by simp [Rows.uptoBulk]
  | .agg _ => by simp [Rows.uptoBulk]
  | .iface _ _ => by simp [Rows.uptoBulk]
  | .map _ => by simp [Rows.uptoBulk]
  | .held _ => by simp [Rows.uptoBulk]
theorem bulk_count {H : Type} : ∀ ds : List (DataW H), ds.length ≤ Rows.uptoBulkAll ds
  | [] => Nat.zero_le _
  | d :: ds => by
    have h1 := bulk_pos d
    have h2 := bulk_count ds
    show ds.length + 1 ≤ Rows.uptoBulk d + Rows.uptoBulkAll ds
    omega
section
variable {H : Type} {enc : TypeId × Value → H} {W : World}
/-- A slice of an argument as a list. -/
theorem open_listN {α : Type} {t e : TypeId} {size : Nat} {f : α → List Value} {Q : α → Prop} {v : Value} {d : DataW H} {p : List MemPlace} (ht : Try.prog.underlying t = some (.slice e)) (hC : Try.prog.cellsOf e = size) (hs : 0 < size) (hf : ∀ x, (f x).length = size)
    (hel : ∀ (n : Nat) (cs : List Value) (y : DataW H × List MemPlace), DataW.trod enc Try.prog W 0 (fun _ => true) true n e cs = some y → ∃ x : α, cs = f x ∧ Q x)
    (hv : ∃ a l c, v = .slice a l c) (h : DataW.Trod enc Try.prog W 0 (fun _ => true) true t v d p) : ∃ xs : List α, IsList size f W v xs ∧ (∀ x ∈ xs, Q x) ∧ xs.length ≤ Rows.uptoBulk d := by
  obtain ⟨fuel, hf0⟩ := h
  obtain ⟨a0, l0, c0, rfl⟩ := hv
  have hc : (Value.slice a0 l0 c0).cells = #[.slice a0 l0 c0] := rfl
  rw [hc] at hf0
  rcases Go.Deep.open_slice ht hf0 with ⟨hcs, _⟩ | ⟨a, len, cap, m, n, D, Pl, hcs, _, hl, hm, hmm, hxd, hi⟩
  · simp only [List.cons.injEq, and_true] at hcs
    rw [hcs]
    exact ⟨[], .inl ⟨none, 0, rfl, rfl⟩, by simp, Nat.zero_le _⟩
  · simp only [if_true] at hmm
    subst hmm
    simp only [List.cons.injEq, and_true] at hcs
    rw [hcs]
    rcases Nat.eq_zero_or_pos len with h0 | hpos
    · subst h0
      exact ⟨[], .inl ⟨_, _, rfl, rfl⟩, by simp, Nat.zero_le _⟩
    · obtain ⟨xs, hxl, hx⟩ := pick_list (p := fun i x => Q x ∧ ∀ j, (hj : j < (f x).length) → W.cell? ((a.add (i * size)).add j) = some ((f x)[j])) len (fun i him => by
        obtain ⟨cs', hc, ht'⟩ := hi i (by omega)
        rw [hC] at hc
        obtain ⟨x, rfl, hx⟩ := hel _ _ _ ht'
        obtain ⟨_, hcl, hat⟩ := World.cells?_some hc
        refine ⟨x, hx, fun j hj => ?_⟩
        rw [hat j (by rw [← hf x]; exact hj)]
        simp)
      obtain ⟨b, off, spot⟩ := a
      have hspot : spot = none := by simpa [Addr.add] using World.cell?_spot ((hx 0 (by omega)).2 0 (by rw [hf]; exact hs))
      subst hspot
      have hcell : ∀ k, (h : k < xs.length) → ∀ j, (h2 : j < (f xs[k]).length) → W.cell? ⟨b, off + k * size + j, none⟩ = some (f xs[k])[j] := fun k hk j hj => by
        have := (hx k hk).2 j hj
        rw [Go.WideShapes.add_plain, Go.WideShapes.add_plain] at this
        exact this
      refine ⟨xs, .inr ⟨b, off, m, by rw [hxl], by rw [hxl]; exact hl, cell_lt (hcell 0 (by omega) 0 (by rw [hf]; exact hs)), hcell⟩, fun x hx' => ?_, ?_⟩
      · obtain ⟨i, hi', rfl⟩ := List.getElem_of_mem hx'
        exact (hx i hi').1
      · injection hxd with hd _
        rw [hd, hxl]
        have h1 := bulk_count ((List.range len).map D)
        rw [List.length_map, List.length_range] at h1
        show len ≤ Rows.uptoBulkAll ((List.range len).map D) + Rows.uptoBulkAll ((List.range (m - len)).map fun j => D (len + j)) + 1
        omega
set_option maxRecDepth 100000 in
theorem open_bytes {r : Reach} {base : Nat} {v : Value} {d : DataW H} {p : List MemPlace} (hv : Value.okWide Try.prog W r base 42 v) (h : DataW.Trod enc Try.prog W 0 (fun _ => true) true 42 v d p) : ∃ xs, IsBytes W v xs ∧ (∀ k ∈ xs, 0 ≤ k ∧ k ≤ 255) ∧ xs.length ≤ Rows.uptoBulk d :=
  open_listN (f := byteVal) (Q := fun k => 0 ≤ k ∧ k ≤ 255) Try.underlying42 cells5 (by decide) (fun _ => rfl) (fun _ _ _ h => el_byte h) (okWide_slice Try.underlying42 hv) h
end
namespace rectsNormal

set_option maxRecDepth 100000 in
theorem lifted (os : Os) (started : os.Started) (H : Type) (enc : TypeId × Value → H) (F : Stop.Interp) :
    ReturnsInHanded {} Try.checked os 6 .any ((Rows.OpenSpec.upto Rows.rectsNormalSpec).pre6 enc Try.prog Try.f6 Rows.rectsNormalUptoRow.domain false) (((Rows.OpenSpec.upto Rows.rectsNormalSpec).at F).post enc Try.prog Try.f6 false true false false) := by
  refine returnsInHanded_of_cond (C := Try.checked) (s := Rows.OpenSpec.upto Rows.rectsNormalSpec) (k := Rows.uptoSmall) rfl own started (by kernel_rfl) Try.func6
    (OpenSpec.witness (enc := enc) (C := Try.checked) (s := Rows.OpenSpec.upto Rows.rectsNormalSpec) (k := Rows.uptoSmall) rfl false ⟨#[], #[.slice none 0 0, .slice none 0 0], []⟩ 8 (by kernel_rfl) (by kernel_rfl) (by kernel_rfl)
      (x := ([.nil, .nil], [], [])) (by kernel_rfl) rfl (by kernel_rfl)) ?_
  intro W base args ds gs before hval0 hW _ hkk _
  have hval : ∀ (j : Nat) t v, Try.f6.params[j]? = some t → args[j]? = some v → Value.okWide Try.prog W .any base t v := hval0
  have hW' := hW
  obtain ⟨p, q, hA0, hV, rfl, hfz, hnd⟩ := hW
  have hA : DataW.TrodAll enc Try.prog W 0 (fun _ => true) true Try.f6.params.toList args.toList ds p := hA0
  rw [Try.params6] at hA hval
  obtain ⟨v0, v1, d0, d1, p0, p1, rfl, rfl, rfl, h0, h1⟩ := trodAll_two hA
  obtain ⟨rfl, rfl⟩ := trodVars_none hV
  clear hA0 hval0
  simp only [List.append_nil] at hW' hkk
  have hlt : ∀ x ∈ p0 ++ p1, x.block < W.heap.size := fun x hx => by simpa using hW'.lt x (by simpa using hx)
  have hlt0 : ∀ x ∈ p0, x.block < W.heap.size := fun x hx => hlt x (by simp [hx])
  have hlt1 : ∀ x ∈ p1, x.block < W.heap.size := fun x hx => hlt x (by simp [hx])
  have hargs0 : ∀ (W' : World), Below W.heap.size W W' → DataW.Trod enc Try.prog W' 0 (fun b => decide (b < W.heap.size)) true 23 v0 d0 p0 :=
    fun W' hn => Below.trod laidOut (by kernel_rfl) (of_decide_eq_true (by kernel_rfl)) h0 hn hlt0
  have hargs1 : ∀ (W' : World), Below W.heap.size W W' → DataW.Trod enc Try.prog W' 0 (fun b => decide (b < W.heap.size)) true 42 v1 d1 p1 :=
    fun W' hn => Below.trod laidOut (by kernel_rfl) (of_decide_eq_true (by kernel_rfl)) h1 hn hlt1
  obtain ⟨xs0, hx0, ok0⟩ := open_quads (hval 0 23 v0 rfl rfl) h0
  obtain ⟨xs1, hx1, ok1, hl1⟩ := open_bytes (hval 1 42 v1 rfl rfl) h1
  have hb : Rows.uptoBulk d0 + (Rows.uptoBulk d1 + 0) ≤ 1048576 := of_decide_eq_true hkk
  have hwk := normal_any v0 v1 xs0 xs1 W hx0 hx1 ok0 ok1 (by omega)
  refine hwk.mono fun e W' ⟨he, hk⟩ => ?_
  subst he
  exact ⟨_, rfl, _, _, _, [], _, [], hW', trodAll_mk1 (shut_bool Try.underlying4 true), trodAll_mk2 (hargs0 _ hk.below) (hargs1 _ hk.below), rfl, hk.below.frame _, fun h => by cases h⟩

theorem proved : Rows.RectsNormalUptoSaid :=
  OpenClaim.holds_of_cond 6 Try.f6 rfl rfl rfl rfl rfl rfl rfl ⟨rfl, rfl, rfl, rfl, rfl⟩ rfl rfl rfl rfl rfl (by kernel_rfl) Try.func6 (by kernel_rfl)
    (of_decide_eq_true (by kernel_rfl)) (by unfold Func.isWrapper; first | (rw [if_pos (by decide +kernel)]; kernel_rfl) | (rw [if_neg (by decide +kernel)]; exact ⟨rfl, rfl⟩))
    (fun os started H enc _ F => lifted os started H enc F)
#print axioms proved
end rectsNormal
end Go.Proofs.Ytpakiabnhdoijaa
