/- What the lines of a file count: flashes, moves, draws, regions; apertures stand ahead of their use, in increasing order. No program here; no condition. -/
import Derived.Test.YtggplbenliaodaaGreatDoorPlF
namespace Pl
open Go

def endsB (x w : Bytes) : Bool := decide (w.length ≤ x.length) && decide (x.drop (x.length - w.length) = w)
theorem endsB_app (p x w : Bytes) (h : x.length = w.length) : endsB (p ++ x) w = decide (x = w) := by
  unfold endsB
  have e : (p ++ x).length - w.length = p.length := by rw [List.length_append]; omega
  rw [e, List.drop_left, decide_eq_true (show w.length ≤ (p ++ x).length by rw [List.length_append]; omega), Bool.true_and]
theorem endsB_last {x w : Bytes} (hw : w ≠ []) (h : endsB x w = true) : x.getLast? = w.getLast? := by
  unfold endsB at h
  rw [Bool.and_eq_true] at h
  have h1 := of_decide_eq_true h.1
  have h2 := of_decide_eq_true h.2
  conv => lhs; rw [← List.take_append_drop (x.length - w.length) x, h2]
  rw [List.getLast?_append]
  cases hq : w.getLast? with
  | none => rw [List.getLast?_eq_none_iff] at hq; exact absurd hq hw
  | some z => rfl
def d01 : Bytes := [68, 48, 49, 42]
def d02 : Bytes := [68, 48, 50, 42]
def d03 : Bytes := [68, 48, 51, 42]
/-- What a line is: a flash, a move, a draw, the beginning of a region, an aperture, the choice of one, or anything else. -/
def cls (x : Bytes) : Nat :=
  if endsB x d03 = true then 0 else if endsB x d02 = true then 1 else if endsB x d01 = true then 2 else if x = g36 then 3
  else if 6 < x.length ∧ x.take 4 = [37, 65, 68, 68] then 4 else if x.length = 4 ∧ x.headD 0 = 68 then 5 else 6
structure Ct where
  fl : Int
  mv : Int
  dr : Int
  rg : Int
  de : Bytes
def stepC (c : Ct) (x : Bytes) : Ct := match cls x with
  | 0 => { c with fl := c.fl - 1 }
  | 1 => { c with mv := c.mv - 1 }
  | 2 => { c with dr := c.dr - 1 }
  | 3 => { c with rg := c.rg - 1 }
  | 4 => { c with de := c.de ++ ((x.drop 4).take 2 ++ [32]) }
  | _ => c
theorem cls_flash (p : Pt) : cls (flashL p) = 0 := by
  have h1 := endsB_app (pnt 88 p 89) [68, 48, 51, 42] d03 rfl
  unfold cls flashL
  rw [h1, if_pos (by decide)]
theorem cls_move (p : Pt) : cls (moveL p) = 1 := by
  have h1 := endsB_app (pnt 88 p 89) [68, 48, 50, 42] d03 rfl
  have h2 := endsB_app (pnt 88 p 89) [68, 48, 50, 42] d02 rfl
  unfold cls moveL
  rw [h1, h2, if_neg (by decide), if_pos (by decide)]
theorem cls_edge (e : Ed) : cls (edgeL e) = 2 := by
  have h1 := endsB_app (gOf e.k ++ pnt 88 e.b 89 ++ arcT e) [68, 48, 49, 42] d03 rfl
  have h2 := endsB_app (gOf e.k ++ pnt 88 e.b 89 ++ arcT e) [68, 48, 49, 42] d02 rfl
  have h3 := endsB_app (gOf e.k ++ pnt 88 e.b 89 ++ arcT e) [68, 48, 49, 42] d01 rfl
  unfold cls edgeL
  rw [h1, h2, h3, if_neg (by decide), if_neg (by decide), if_pos (by decide)]
theorem cls_g36 : cls g36 = 3 := by decide +kernel
theorem cls_g37 : cls g37 = 6 := by decide +kernel
theorem cls_m02 : cls m02 = 6 := by decide +kernel
theorem cls_pol (c : Bool) : cls (polB c) = 6 := by cases c <;> decide +kernel
theorem cls_head : ∀ x ∈ headL, cls x = 6 := by decide +kernel
/-- Numbers of two digits. -/
def two (k : Nat) : Bytes := [49, UInt8.ofNat (48 + k)]
theorem itoa_two {k : Nat} (h : k < 10) : Lib.itoa (10 + k : Nat) = two k := by
  have h0 : ¬ ((10 + k : Nat) : Int) < 0 := by omega
  unfold Lib.itoa
  rw [if_neg h0]
  rw [Int.toNat_natCast]
  rw [dec_big (by omega), dec_small (show (10 + k) / 10 < 10 by omega)]
  have e1 : (10 + k) / 10 = 1 := by omega
  have e2 : (10 + k) % 10 = k := by omega
  rw [e1, e2]; rfl
theorem cls_sel {k : Nat} (h : k < 10) : cls (selB (10 + k)) = 5 := by
  unfold selB
  rw [itoa_two h]
  match k, h with
  | 0, _ => decide +kernel
  | 1, _ => decide +kernel
  | 2, _ => decide +kernel
  | 3, _ => decide +kernel
  | 4, _ => decide +kernel
  | 5, _ => decide +kernel
  | 6, _ => decide +kernel
  | 7, _ => decide +kernel
  | 8, _ => decide +kernel
  | 9, _ => decide +kernel
theorem apB_two {k : Nat} (h : k < 10) (r : Int) : apB k r = [37, 65, 68, 68] ++ (two k ++ ([67, 44] ++ Lib.itoa (2 * r) ++ [42, 37])) := by
  unfold apB; rw [itoa_two h]; simp
theorem cls_ap {k : Nat} (h : k < 10) (r : Int) : cls (apB k r) = 4 := by
  have hl : (apB k r).getLast? = some 37 := by unfold apB; rw [List.getLast?_append]; rfl
  have hn : ∀ w : Bytes, w ≠ [] → w.getLast? = some 42 → ¬ endsB (apB k r) w = true := fun w h1 h2 h3 => by
    have := endsB_last h1 h3
    rw [hl, h2] at this
    exact absurd this (by decide)
  have e := apB_two h r
  unfold cls
  rw [if_neg (hn _ (by decide) rfl), if_neg (hn _ (by decide) rfl), if_neg (hn _ (by decide) rfl), if_neg, if_pos]
  · rw [e]
    refine ⟨?_, rfl⟩
    unfold two
    simp only [List.length_append, List.length_cons, List.length_nil]
    omega
  · intro h3
    rw [h3] at hl
    exact absurd hl (by decide)
theorem ap_take {k : Nat} (h : k < 10) (r : Int) : ((apB k r).drop 4).take 2 = two k := by rw [apB_two h]; rfl

/-! ### What the drawings have -/

def isFl (d : Dr) : Bool := decide (d.s.k = 1) && (flash d.s).isSome
def cnt (c : Ct) (d : Dr) : Ct := if isFl d = true then { c with fl := c.fl + 1 } else { c with mv := c.mv + 1, dr := c.dr + d.s.es.length, rg := if d.s.k = 2 then c.rg + 1 else c.rg }
theorem fold_edges (es : List Ed) : ∀ c : Ct, (es.map edgeL).foldl stepC c = { c with dr := c.dr - es.length } := by
  induction es with
  | nil => intro c; simp
  | cons e es ih =>
    intro c
    rw [List.map_cons, List.foldl_cons, ih]
    have h : stepC c (edgeL e) = { c with dr := c.dr - 1 } := by simp only [stepC, cls_edge]
    rw [h, List.length_cons]
    simp only [Ct.mk.injEq, true_and, and_true]
    omega
theorem fold_edgesL {es : List Ed} (h : 0 < es.length) (c : Ct) : (edgesL es).foldl stepC c = { c with mv := c.mv - 1, dr := c.dr - es.length } := by
  match es, h with
  | e :: l, _ =>
    show ((e :: l).map edgeL).foldl stepC (stepC c (moveL e.a)) = _
    have h : stepC c (moveL e.a) = { c with mv := c.mv - 1 } := by simp only [stepC, cls_move]
    rw [h, fold_edges]
theorem step_cls {c : Ct} {x : Bytes} {n : Nat} (h : cls x = n + 5) : stepC c x = c := by simp only [stepC, h]
theorem fold_body (rs : List Int) (hrs : rs.length ≤ 10) (ds : List Dr) : ∀ (pc : Bool) (ap : Nat) (c : Ct), (∀ d ∈ ds, chk d.s = 0 ∧ (d.s.k = 1 → d.s.r ∈ rs)) → (bodyL rs pc ap ds).foldl stepC (ds.foldl cnt c) = c := by
  induction ds with
  | nil => intro _ _ c _; rfl
  | cons d ds ih =>
    intro pc ap c h
    obtain ⟨h1, h2⟩ := h d List.mem_cons_self
    obtain ⟨a1, a2, a3, a4, a5⟩ := chk_shape h1
    have comm : ∀ (l : List Dr) (c : Ct) (a b m g : Int), l.foldl cnt ⟨c.fl + a, c.mv + b, c.dr + m, c.rg + g, c.de⟩ = ⟨(l.foldl cnt c).fl + a, (l.foldl cnt c).mv + b, (l.foldl cnt c).dr + m, (l.foldl cnt c).rg + g, (l.foldl cnt c).de⟩ := by
      intro l
      induction l with
      | nil => intro c a b m g; rfl
      | cons x l ihl =>
        intro c a b m g
        rw [List.foldl_cons, List.foldl_cons, ← ihl]
        congr 1
        unfold cnt
        split
        · simp only [Ct.mk.injEq, and_true]; omega
        · split <;> (simp only [Ct.mk.injEq, and_true, true_and]; omega)
    rw [List.foldl_cons]
    show (polL pc d.clear ++ (selL rs ap d.s ++ (shapeL d.s ++ bodyL rs d.clear (apOf rs ap d.s) ds))).foldl stepC _ = _
    rw [List.foldl_append, List.foldl_append, List.foldl_append]
    have e1 : ∀ c : Ct, (polL pc d.clear).foldl stepC c = c := fun c => by
      unfold polL; split
      · rfl
      · exact step_cls (n := 1) (cls_pol _)
    have e2 : ∀ c : Ct, (selL rs ap d.s).foldl stepC c = c := fun c => by
      unfold selL; split
      · rfl
      · rename_i hn
        have hk : d.s.k = 1 := by omega
        have : rs.idxOf d.s.r < rs.length := List.idxOf_lt_length_of_mem (h2 hk)
        exact step_cls (n := 0) (cls_sel (by omega))
    rw [e1, e2]
    have e3 : ∀ X : Ct, (shapeL d.s).foldl stepC X = if isFl d = true then { X with fl := X.fl - 1 } else { X with mv := X.mv - 1, dr := X.dr - d.s.es.length, rg := if d.s.k = 2 then X.rg - 1 else X.rg } := fun X => by
      unfold shapeL isFl
      by_cases hk : d.s.k = 2
      · have hk1 : ¬ d.s.k = 1 := by omega
        rw [if_pos hk, if_pos hk, if_neg (by simp [hk1]), List.foldl_cons, List.foldl_append, fold_edgesL a2]
        have g : ∀ c : Ct, stepC c g36 = { c with rg := c.rg - 1 } := fun c => by simp only [stepC, cls_g36]
        rw [g, List.foldl_cons, List.foldl_nil, step_cls (n := 1) cls_g37]
      · have hk1 : d.s.k = 1 := by omega
        rw [if_neg hk, if_neg hk, decide_eq_true hk1, Bool.true_and]
        unfold pathL
        cases hf : flash d.s with
        | some p =>
          show stepC X (flashL p) = _
          simp only [stepC, cls_flash]; rfl
        | none =>
          rw [if_neg (by simp)]
          exact fold_edgesL a2 X
    rw [e3]
    have e4 : ds.foldl cnt (cnt c d) = if isFl d = true then (⟨(ds.foldl cnt c).fl + 1, (ds.foldl cnt c).mv, (ds.foldl cnt c).dr, (ds.foldl cnt c).rg, (ds.foldl cnt c).de⟩ : Ct) else ⟨(ds.foldl cnt c).fl, (ds.foldl cnt c).mv + 1, (ds.foldl cnt c).dr + d.s.es.length, if d.s.k = 2 then (ds.foldl cnt c).rg + 1 else (ds.foldl cnt c).rg, (ds.foldl cnt c).de⟩ := by
      unfold cnt
      split
      · have := comm ds c 1 0 0 0
        simp only [Int.add_zero] at this; exact this
      · split
        · have := comm ds c 0 1 d.s.es.length 1
          simp only [Int.add_zero] at this; exact this
        · have := comm ds c 0 1 d.s.es.length 0
          simp only [Int.add_zero] at this; exact this
    rw [e4]
    have e5 := ih d.clear (apOf rs ap d.s) c (fun x hx => h x (List.mem_cons_of_mem _ hx))
    refine Eq.trans ?_ e5
    congr 1
    generalize ds.foldl cnt c = Y
    obtain ⟨y1, y2, y3, y4, y5⟩ := Y
    by_cases hf : isFl d = true
    · simp only [if_pos hf, Ct.mk.injEq, and_true]; omega
    · by_cases hk : d.s.k = 2
      · simp only [if_neg hf, if_pos hk, Ct.mk.injEq, and_true, true_and]; omega
      · simp only [if_neg hf, if_neg hk, Ct.mk.injEq, and_true, true_and]; omega
/-- The text of the apertures' numbers. -/
def defT (n : Nat) : Bytes := (List.range n).flatMap fun k => two k ++ [32]
theorem defT_step (n : Nat) : defT (n + 1) = defT n ++ (two n ++ [32]) := by unfold defT; rw [List.range_succ, List.flatMap_append]; simp
theorem defT_length (n : Nat) : (defT n).length = 3 * n := by
  induction n with
  | zero => rfl
  | succ n ih => rw [defT_step, List.length_append, ih]; simp [two]; omega
theorem fold_aps (rs : List Int) : ∀ (k : Nat) (c : Ct), k + rs.length ≤ 10 → c.de = defT k → (apsL k rs).foldl stepC c = { c with de := defT (k + rs.length) } := by
  induction rs with
  | nil => intro k c _ h; simp [apsL, ← h]
  | cons r rs ih =>
    intro k c h1 h2
    rw [List.length_cons] at h1
    show (apsL (k + 1) rs).foldl stepC (stepC c (apB k r)) = _
    have h : stepC c (apB k r) = { c with de := defT (k + 1) } := by
      simp only [stepC, cls_ap (show k < 10 by omega), ap_take (show k < 10 by omega), h2, defT_step]
    rw [h, ih (k + 1) _ (by omega) rfl, List.length_cons]
    simp only [Ct.mk.injEq, true_and]
    congr 1; omega
theorem fold_id {l : List Bytes} {n : Nat} (h : ∀ x ∈ l, cls x = n + 5) : ∀ c : Ct, l.foldl stepC c = c := by
  induction l with
  | nil => exact fun _ => rfl
  | cons x l ih => exact fun c => by rw [List.foldl_cons, step_cls (h x List.mem_cons_self), ih (fun y hy => h y (List.mem_cons_of_mem _ hy))]
/-- The counts come out even. -/
theorem fold_file (ds : List Dr) (hd : ∀ d ∈ ds, chk d.s = 0) (hr : (radii ds).length ≤ 10) :
    (fileL ds).foldl stepC (ds.foldl cnt ⟨0, 0, 0, 0, []⟩) = ⟨0, 0, 0, 0, defT (radii ds).length⟩ := by
  have hde : ∀ (l : List Dr) (c : Ct), (l.foldl cnt c).de = c.de := by
    intro l
    induction l with
    | nil => exact fun _ => rfl
    | cons d l ih => exact fun c => by rw [List.foldl_cons, ih]; unfold cnt; split <;> rfl
  have hcd : ∀ (l : List Dr) (c : Ct) (b : Bytes), { l.foldl cnt c with de := b } = l.foldl cnt { c with de := b } := by
    intro l
    induction l with
    | nil => exact fun _ _ => rfl
    | cons d l ih => exact fun c b => by rw [List.foldl_cons, List.foldl_cons, ih]; congr 1; unfold cnt; split <;> rfl
  unfold fileL
  rw [List.foldl_append, fold_id (n := 1) cls_head, List.foldl_append, fold_aps _ 0 _ (by omega) (by rw [hde]; rfl), List.foldl_cons, step_cls (n := 1) (cls_pol _), List.foldl_append, hcd]
  rw [fold_body _ hr ds false 0 _ (fun d h => ⟨hd d h, fun hk => (mem_radii ds _).2 ⟨d, h, hk, rfl⟩⟩), Nat.zero_add]
  show stepC _ m02 = _
  exact step_cls (n := 1) cls_m02
/-- A number stands in a text of numbers. -/
def Used (de x : Bytes) : Prop := ∃ j, 3 * j + 2 ≤ de.length ∧ (de.drop (3 * j)).take 2 = (x.drop 1).take 2
theorem defT_get {n j : Nat} (h : j < n) : ((defT n).drop (3 * j)).take 2 = two j := by
  induction n with
  | zero => omega
  | succ n ih =>
    rw [defT_step]
    by_cases hj : j < n
    · rw [List.drop_append_of_le_length (by rw [defT_length]; omega), List.take_append_of_le_length (by rw [List.length_drop, defT_length]; omega)]
      exact ih hj
    · have e : j = n := by omega
      subst e
      rw [List.drop_append, List.drop_eq_nil_of_le (by rw [defT_length]; omega), defT_length]
      simp [two]
theorem body_cls5 (rs : List Int) (hrs : rs.length ≤ 10) (ds : List Dr) : ∀ (pc : Bool) (ap : Nat), (∀ d ∈ ds, chk d.s = 0 ∧ (d.s.k = 1 → d.s.r ∈ rs)) → ∀ x ∈ bodyL rs pc ap ds, cls x ≠ 4 ∧ (cls x = 5 → ∃ j, j < rs.length ∧ x = selB (10 + j)) := by
  have edg : ∀ es : List Ed, ∀ x ∈ edgesL es, cls x = 1 ∨ cls x = 2 := fun es x hx => by
    cases es with
    | nil => cases hx
    | cons e es =>
      rcases List.mem_cons.1 hx with rfl | hx
      · exact .inl (cls_move _)
      · obtain ⟨y, _, rfl⟩ := List.mem_map.1 hx; exact .inr (cls_edge y)
  induction ds with
  | nil => intro _ _ _ x hx; cases hx
  | cons d ds ih =>
    intro pc ap h x hx
    obtain ⟨h1, h2⟩ := h d List.mem_cons_self
    obtain ⟨a1, _⟩ := chk_shape h1
    unfold bodyL at hx
    rcases List.mem_append.1 hx with hx | hx
    · unfold polL at hx
      split at hx
      · cases hx
      · rw [List.mem_singleton.1 hx, cls_pol]; exact ⟨by decide, fun h => absurd h (by decide)⟩
    · rcases List.mem_append.1 hx with hx | hx
      · unfold selL at hx
        split at hx
        · cases hx
        · rename_i hn
          have hk : d.s.k = 1 := by omega
          have hi : rs.idxOf d.s.r < rs.length := List.idxOf_lt_length_of_mem (h2 hk)
          rw [List.mem_singleton.1 hx]
          refine ⟨?_, fun _ => ⟨_, hi, rfl⟩⟩
          unfold num
          rw [cls_sel (by omega)]; decide
      · rcases List.mem_append.1 hx with hx | hx
        · have : cls x = 3 ∨ cls x = 1 ∨ cls x = 2 ∨ cls x = 6 ∨ cls x = 0 := by
            unfold shapeL at hx
            split at hx
            · rcases List.mem_cons.1 hx with rfl | hx
              · exact .inl cls_g36
              · rcases List.mem_append.1 hx with hx | hx
                · rcases edg _ x hx with h | h
                  · exact .inr (.inl h)
                  · exact .inr (.inr (.inl h))
                · rw [List.mem_singleton.1 hx]; exact .inr (.inr (.inr (.inl cls_g37)))
            · unfold pathL at hx
              split at hx
              · rw [List.mem_singleton.1 hx]; exact .inr (.inr (.inr (.inr (cls_flash _))))
              · rcases edg _ x hx with h | h
                · exact .inr (.inl h)
                · exact .inr (.inr (.inl h))
          rcases this with h | h | h | h | h <;> rw [h] <;> exact ⟨by decide, fun h => absurd h (by decide)⟩
        · exact ih _ _ (fun y hy => h y (List.mem_cons_of_mem _ hy)) x hx
theorem fold_de4 (l : List Bytes) (h : ∀ x ∈ l, cls x ≠ 4) : ∀ c : Ct, (l.foldl stepC c).de = c.de := by
  induction l with
  | nil => exact fun _ => rfl
  | cons x l ih =>
    intro c
    rw [List.foldl_cons, ih (fun y hy => h y (List.mem_cons_of_mem _ hy))]
    have := h x List.mem_cons_self
    unfold stepC
    split <;> first | rfl | (rename_i h4; exact absurd h4 this)
/-- An aperture is chosen only if it was defined. -/
theorem used_file (ds : List Dr) (hd : ∀ d ∈ ds, chk d.s = 0) (hr : (radii ds).length ≤ 10) (c : Ct) (hc : c.de = []) (k : Nat) (hk : k < (fileL ds).length) (h5 : cls (fileL ds)[k] = 5) :
    Used (((fileL ds).take k).foldl stepC c).de (fileL ds)[k] := by
  have hb := body_cls5 (radii ds) hr ds false 0 (fun d h => ⟨hd d h, fun hk => (mem_radii ds _).2 ⟨d, h, hk, rfl⟩⟩)
  have hap : ∀ (rs : List Int) (j : Nat), j + rs.length ≤ 10 → ∀ x ∈ apsL j rs, cls x = 4 := by
    intro rs
    induction rs with
    | nil => intro _ _ x hx; cases hx
    | cons r rs ih =>
      intro j hj x hx
      rw [List.length_cons] at hj
      rcases List.mem_cons.1 hx with rfl | hx
      · exact cls_ap (by omega) r
      · exact ih (j + 1) (by omega) x hx
  obtain ⟨A, hA⟩ : ∃ A, headL ++ apsL 0 (radii ds) ++ [polB false] = A := ⟨_, rfl⟩
  have e : fileL ds = A ++ (bodyL (radii ds) false 0 ds ++ [m02]) := by rw [← hA]; unfold fileL; simp
  have hA5 : ∀ x ∈ A, cls x ≠ 5 := fun x hx => by
    rw [← hA] at hx
    rcases List.mem_append.1 hx with hx | hx
    · rcases List.mem_append.1 hx with hx | hx
      · rw [cls_head x hx]; decide
      · rw [hap _ 0 (by omega) x hx]; decide
    · rw [List.mem_singleton.1 hx, cls_pol]; decide
  have hAd : (A.foldl stepC c).de = defT (radii ds).length := by
    rw [← hA, List.foldl_append, List.foldl_append, fold_id (n := 1) cls_head, fold_aps _ 0 _ (by omega) (by rw [hc]; rfl)]
    rw [List.foldl_cons, List.foldl_nil, step_cls (n := 1) (cls_pol _), Nat.zero_add]
  have hk' : A.length ≤ k := by
    rcases Nat.lt_or_ge k A.length with h | h
    · exfalso
      have e2 : (fileL ds)[k] = A[k] := by simp only [e]; rw [List.getElem_append_left h]
      exact hA5 _ (List.getElem_mem h) (e2 ▸ h5)
    · exact h
  have hx : (fileL ds)[k] ∈ bodyL (radii ds) false 0 ds ++ [m02] := by
    simp only [e]
    rw [List.getElem_append_right hk']
    exact List.getElem_mem _
  obtain ⟨j, hj, ex⟩ : ∃ j, j < (radii ds).length ∧ (fileL ds)[k] = selB (10 + j) := by
    rcases List.mem_append.1 hx with hx | hx
    · exact (hb _ hx).2 h5
    · rw [List.mem_singleton.1 hx] at h5; exact absurd (h5.symm.trans cls_m02) (by decide)
  have hde : (((fileL ds).take k).foldl stepC c).de = defT (radii ds).length := by
    rw [e, List.take_append, List.take_of_length_le hk', List.foldl_append, fold_de4, hAd]
    intro x hx
    have hx := List.mem_of_mem_take hx
    rcases List.mem_append.1 hx with hx | hx
    · exact (hb x hx).1
    · rw [List.mem_singleton.1 hx, cls_m02]; decide
  refine ⟨j, by rw [hde, defT_length]; omega, ?_⟩
  rw [hde, defT_get hj, ex]
  unfold selB
  rw [itoa_two (by omega)]
  rfl
end Pl
