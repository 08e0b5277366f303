/- The plain law of the rectangles, fifth part: areas are numbers of squares. No program is in sight. -/
import Derived.Test.YtpakiabnhdoijaaRcD
namespace Go.Proofs.Ytpakiabnhdoijaa.Rc

def Rect.area (r : Rect) : Int := (r.x1 - r.x0) * (r.y1 - r.y0)
def areaOf (l : List Rect) : Int := (l.map Rect.area).sum
/-- The places that the law looks at, one after the other. -/
def places : List (Int × Int) := (List.range 15).flatMap fun (i : Nat) => (List.range 15).map fun (j : Nat) => ((i : Int) - 1, (j : Int) - 1)
def countOf (w : Int → Int → Bool) : Nat := places.countP fun p => w p.1 p.2
theorem count_line (a b : Nat) (ha : a ≤ b) (hb : b ≤ 13) : (List.range 15).countP (fun (i : Nat) => decide ((a : Int) ≤ (i : Int) - 1 ∧ (i : Int) - 1 < (b : Int))) = b - a := by
  have : ∀ x : Fin 14, ∀ y : Fin 14, x.val ≤ y.val → (List.range 15).countP (fun (i : Nat) => decide ((x.val : Int) ≤ (i : Int) - 1 ∧ (i : Int) - 1 < (y.val : Int))) = y.val - x.val := by decide +kernel
  exact this ⟨a, by omega⟩ ⟨b, by omega⟩ ha
theorem count_prod (p q : Nat → Bool) (l m : List Nat) : (l.flatMap fun (i : Nat) => m.map fun (j : Nat) => ((i : Int) - 1, (j : Int) - 1)).countP (fun c => p (c.1 + 1).toNat && q (c.2 + 1).toNat) = l.countP p * m.countP q := by
  induction l with
  | nil => simp
  | cons i l ih =>
    rw [List.flatMap_cons, List.countP_append, ih, List.countP_map, List.countP_cons]
    have e : m.countP ((fun c : Int × Int => p (c.1 + 1).toNat && q (c.2 + 1).toNat) ∘ fun (j : Nat) => ((i : Int) - 1, (j : Int) - 1)) = if p i = true then m.countP q else 0 := by
      have h : ((fun c : Int × Int => p (c.1 + 1).toNat && q (c.2 + 1).toNat) ∘ fun j : Nat => ((i : Int) - 1, (j : Int) - 1)) = fun j => p i && q j := by
        funext j
        simp only [Function.comp_def, Int.sub_add_cancel, Int.toNat_natCast]
      rw [h]
      cases hp : p i
      · simp
      · simp
    rw [e]
    split
    · rw [Nat.add_mul]; omega
    · simp
theorem count_rect {r : Rect} (h : 0 ≤ r.x0 ∧ r.x0 ≤ r.x1 ∧ r.x1 ≤ 13 ∧ 0 ≤ r.y0 ∧ r.y0 ≤ r.y1 ∧ r.y1 ≤ 13) : (countOf (fun x y => r.has x y) : Int) = r.area := by
  have e := count_prod (fun (i : Nat) => decide (r.x0 ≤ (i : Int) - 1 ∧ (i : Int) - 1 < r.x1)) (fun (j : Nat) => decide (r.y0 ≤ (j : Int) - 1 ∧ (j : Int) - 1 < r.y1)) (List.range 15) (List.range 15)
  have e2 : countOf (fun x y => r.has x y) = places.countP (fun c => decide (r.x0 ≤ ((c.1 + 1).toNat : Int) - 1 ∧ ((c.1 + 1).toNat : Int) - 1 < r.x1) && decide (r.y0 ≤ ((c.2 + 1).toNat : Int) - 1 ∧ ((c.2 + 1).toNat : Int) - 1 < r.y1)) := by
    unfold countOf
    refine List.countP_congr fun c hc => ?_
    obtain ⟨i, hi, hc⟩ := List.mem_flatMap.1 hc
    obtain ⟨j, hj, rfl⟩ := List.mem_map.1 hc
    simp only [Int.sub_add_cancel, Int.toNat_natCast, Rect.has, Bool.and_eq_true, decide_eq_true_eq]
    constructor
    · rintro ⟨a, b, c, d⟩; exact ⟨⟨a, b⟩, c, d⟩
    · rintro ⟨⟨a, b⟩, c, d⟩; exact ⟨a, b, c, d⟩
  have ex := count_line r.x0.toNat r.x1.toNat (by omega) (by omega)
  have ey := count_line r.y0.toNat r.y1.toNat (by omega) (by omega)
  have fx : ∀ i : Nat, decide (((r.x0.toNat : Nat) : Int) ≤ (i : Int) - 1 ∧ (i : Int) - 1 < ((r.x1.toNat : Nat) : Int)) = decide (r.x0 ≤ (i : Int) - 1 ∧ (i : Int) - 1 < r.x1) := fun i => by
    rw [Int.toNat_of_nonneg h.1, Int.toNat_of_nonneg (by omega)]
  have fy : ∀ i : Nat, decide (((r.y0.toNat : Nat) : Int) ≤ (i : Int) - 1 ∧ (i : Int) - 1 < ((r.y1.toNat : Nat) : Int)) = decide (r.y0 ≤ (i : Int) - 1 ∧ (i : Int) - 1 < r.y1) := fun i => by
    rw [Int.toNat_of_nonneg h.2.2.2.1, Int.toNat_of_nonneg (by omega)]
  simp only [fx] at ex
  simp only [fy] at ey
  rw [e2]
  unfold places
  rw [e, ex, ey]
  unfold Rect.area
  have h1 : ((r.x1.toNat - r.x0.toNat : Nat) : Int) = r.x1 - r.x0 := by omega
  have h2 : ((r.y1.toNat - r.y0.toNat : Nat) : Int) = r.y1 - r.y0 := by omega
  rw [Int.natCast_mul, h1, h2]
theorem before_apart {a b : Rect} (h : Before a b) (_ha : a.x0 < a.x1 ∧ a.y0 < a.y1) (_hb : b.x0 < b.x1 ∧ b.y0 < b.y1) (x y : Int) : ¬ (a.has x y = true ∧ b.has x y = true) := fun ⟨h1, h2⟩ => by
  unfold Rect.has at h1 h2
  simp only [decide_eq_true_eq] at h1 h2
  rcases h with h | h <;> omega
theorem count_or {α : Type} (p q : α → Bool) (l : List α) (h : ∀ x ∈ l, ¬ (p x = true ∧ q x = true)) : l.countP (fun x => p x || q x) = l.countP p + l.countP q := by
  induction l with
  | nil => rfl
  | cons x l ih =>
    have h1 := h x (by simp)
    rw [List.countP_cons, List.countP_cons, List.countP_cons, ih (fun y hy => h y (by simp [hy]))]
    cases hp : p x <;> cases hq : q x <;> simp [hp, hq] at h1 ⊢ <;> omega
theorem count_list : ∀ {l : List Rect}, l.Pairwise Before → (∀ r ∈ l, r.x0 < r.x1 ∧ r.y0 < r.y1) → (∀ r ∈ l, 0 ≤ r.x0 ∧ 0 ≤ r.y0 ∧ r.x1 ≤ 13 ∧ r.y1 ≤ 13) → (countOf (cov l) : Int) = areaOf l
  | [], _, _, _ => by
    have : countOf (cov []) = 0 := by unfold countOf; exact List.countP_eq_zero.2 (fun x _ => by simp [cov])
    rw [this]; rfl
  | r :: l, ho, hp, hi => by
    obtain ⟨h1, h2⟩ := List.pairwise_cons.1 ho
    have e : countOf (cov (r :: l)) = countOf (fun x y => r.has x y) + countOf (cov l) := by
      unfold countOf
      have : (fun p : Int × Int => cov (r :: l) p.1 p.2) = fun p => r.has p.1 p.2 || cov l p.1 p.2 := by funext p; simp [cov]
      rw [this]
      refine count_or _ _ _ fun p _ ⟨g1, g2⟩ => ?_
      have g1' : r.has p.1 p.2 = true := g1
      have g2' : cov l p.1 p.2 = true := g2
      unfold cov at g2'
      obtain ⟨u, hu, g3⟩ := List.any_eq_true.1 g2'
      exact before_apart (h1 u hu) (hp r (by simp)) (hp u (by simp [hu])) p.1 p.2 ⟨g1', g3⟩
    have hr := hi r (by simp)
    have hpr := hp r (by simp)
    rw [e, Int.natCast_add, count_rect ⟨hr.1, by omega, hr.2.2.1, hr.2.1, by omega, hr.2.2.2⟩, count_list h2 (fun u hu => hp u (by simp [hu])) (fun u hu => hi u (by simp [hu]))]
    simp [areaOf]
/-- The area of a normal list is the number of its squares. -/
theorem count_norm (l : List Rect) (h : ∀ r ∈ set l, 0 ≤ r.x0 ∧ 0 ≤ r.y0 ∧ r.x1 ≤ 13 ∧ r.y1 ≤ 13) : (countOf (cov (set l)) : Int) = areaOf (norm l) := by
  have e : cov (set l) = cov (norm l) := by funext x y; exact (cov_norm l x y).symm
  rw [e]
  refine count_list (comb_order join_comb l []) (comb_pos join_comb l []) fun r hr => ?_
  have := comb_in join_comb l [] (X0 := 0) (Y0 := 0) (X1 := 13) (Y1 := 13) (fun u hu => by
    rw [set_nil, List.append_nil] at hu; exact h u hu) r hr
  exact this
end Go.Proofs.Ytpakiabnhdoijaa.Rc
