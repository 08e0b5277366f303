/- The lines of a file of drawings; different drawings have different files. No program here; no condition. -/
import Derived.Test.YtggplbenliaodaaGreatDoorPlD
namespace Pl
open Go

/-! ### Numerals -/

theorem dec_small {u : Nat} (h : u < 10) : Lib.decDigits u = [UInt8.ofNat (48 + u)] := by rw [Lib.decDigits, dif_pos h]
theorem dec_big {u : Nat} (h : ¬ u < 10) : Lib.decDigits u = Lib.decDigits (u / 10) ++ [UInt8.ofNat (48 + u % 10)] := by rw [Lib.decDigits, dif_neg h]
theorem digit_toNat {d : Nat} (h : d < 10) : (UInt8.ofNat (48 + d)).toNat = 48 + d := by
  simp [UInt8.toNat_ofNat']; omega
theorem dec_digit (u : Nat) : ∀ c ∈ Lib.decDigits u, 48 ≤ c.toNat ∧ c.toNat ≤ 57 := by
  induction u using Nat.strongRecOn with
  | _ u ih =>
    intro c hc
    by_cases h : u < 10
    · rw [dec_small h] at hc
      simp only [List.mem_singleton] at hc
      rw [hc, digit_toNat h]; omega
    · rw [dec_big h] at hc
      rcases List.mem_append.1 hc with hc | hc
      · exact ih _ (by omega) c hc
      · simp only [List.mem_singleton] at hc
        rw [hc, digit_toNat (by omega)]; omega
theorem dec_ne (u : Nat) : Lib.decDigits u ≠ [] := by
  by_cases h : u < 10
  · rw [dec_small h]; simp
  · rw [dec_big h]; simp
def dval (l : Bytes) : Nat := l.foldl (fun a c => a * 10 + (c.toNat - 48)) 0
theorem dval_dec (u : Nat) : dval (Lib.decDigits u) = u := by
  induction u using Nat.strongRecOn with
  | _ u ih =>
    by_cases h : u < 10
    · rw [dec_small h]; unfold dval; simp only [List.foldl_cons, List.foldl_nil, digit_toNat h]; omega
    · rw [dec_big h]
      have := ih (u / 10) (by omega)
      unfold dval at this ⊢
      rw [List.foldl_append, this]
      simp only [List.foldl_cons, List.foldl_nil, digit_toNat (show u % 10 < 10 by omega)]
      omega
theorem dec_inj {u v : Nat} (h : Lib.decDigits u = Lib.decDigits v) : u = v := by rw [← dval_dec u, h, dval_dec]
theorem itoa_ne (n : Int) : Lib.itoa n ≠ [] := by unfold Lib.itoa; split; simp; exact dec_ne _
theorem itoa_byte (n : Int) : ∀ c ∈ Lib.itoa n, c = 45 ∨ 48 ≤ c.toNat ∧ c.toNat ≤ 57 := by
  intro c hc
  unfold Lib.itoa at hc
  split at hc
  · rcases List.mem_cons.1 hc with hc | hc
    · exact .inl hc
    · exact .inr (dec_digit _ c hc)
  · exact .inr (dec_digit _ c hc)
theorem itoa_inj {n m : Int} (h : Lib.itoa n = Lib.itoa m) : n = m := by
  have hd : ∀ (u : Nat) (t : Bytes), Lib.decDigits u ≠ 45 :: t := fun u t e => by
    have := dec_digit u 45 (by rw [e]; exact List.mem_cons_self)
    exact absurd this.1 (by decide)
  unfold Lib.itoa at h
  by_cases hn : n < 0
  · by_cases hm : m < 0
    · rw [if_pos hn, if_pos hm] at h
      injection h with _ h
      have := dec_inj h; omega
    · rw [if_pos hn, if_neg hm] at h
      exact absurd h.symm (hd _ _)
  · by_cases hm : m < 0
    · rw [if_neg hn, if_pos hm] at h
      exact absurd h (hd _ _)
    · rw [if_neg hn, if_neg hm] at h
      have := dec_inj h; omega
/-- Bytes of numerals. -/
def nb (c : UInt8) : Bool := decide (c = 45) || (decide (48 ≤ c.toNat) && decide (c.toNat ≤ 57))
theorem itoa_nb (n : Int) : ∀ c ∈ Lib.itoa n, nb c = true := fun c hc => by
  unfold nb
  rcases itoa_byte n c hc with h | h
  · simp [h]
  · simp [h]
theorem take_nb {l : Bytes} (h : ∀ c ∈ l, nb c = true) {c : UInt8} (hc : nb c = false) (t : Bytes) : (l ++ c :: t).takeWhile nb = l ∧ (l ++ c :: t).dropWhile nb = c :: t := by
  induction l with
  | nil => simp [hc]
  | cons d l ih =>
    have hd := h d List.mem_cons_self
    have := ih fun x hx => h x (List.mem_cons_of_mem _ hx)
    rw [List.cons_append, List.takeWhile_cons, List.dropWhile_cons, if_pos hd, if_pos hd]
    exact ⟨by rw [this.1], this.2⟩
theorem itoa_cut {n m : Int} {c d : UInt8} {s t : Bytes} (hc : nb c = false) (hd : nb d = false) (h : Lib.itoa n ++ c :: s = Lib.itoa m ++ d :: t) : n = m ∧ c = d ∧ s = t := by
  have h1 := take_nb (itoa_nb n) hc s
  have h2 := take_nb (itoa_nb m) hd t
  rw [h] at h1
  refine ⟨itoa_inj (h1.1.symm.trans h2.1), ?_⟩
  have := h1.2.symm.trans h2.2
  injection this with a b
  exact ⟨a, b⟩
theorem pnt_cut {x y c d : UInt8} {p q : Pt} {s t : Bytes} (hy : nb y = false) (hc : nb c = false) (hd : nb d = false) (h : pnt x p y ++ c :: s = pnt x q y ++ d :: t) : p = q ∧ c = d ∧ s = t := by
  obtain ⟨px, py⟩ := p
  obtain ⟨qx, qy⟩ := q
  unfold pnt at h
  simp only [List.cons_append, List.append_assoc] at h
  injection h with _ h
  obtain ⟨rfl, _, h2⟩ := itoa_cut hy hy h
  obtain ⟨rfl, h3⟩ := itoa_cut hc hd h2
  exact ⟨rfl, h3⟩

/-! ### Lines -/

def joinL (ls : List Bytes) : Bytes := ls.flatMap fun l => l ++ [10]
theorem joinL_append (a b : List Bytes) : joinL (a ++ b) = joinL a ++ joinL b := by unfold joinL; rw [List.flatMap_append]
/-- The lines of a text; what stands behind the last line feed is left out. -/
def splitFrom : Bytes → Bytes → List Bytes
  | _, [] => []
  | cur, c :: r => if c = 10 then cur :: splitFrom [] r else splitFrom (cur ++ [c]) r
theorem splitFrom_line (l : Bytes) (h : ∀ c ∈ l, c ≠ 10) (r : Bytes) : ∀ cur, splitFrom cur (l ++ 10 :: r) = (cur ++ l) :: splitFrom [] r := by
  induction l with
  | nil => intro cur; simp [splitFrom]
  | cons d l ih =>
    intro cur
    rw [List.cons_append, splitFrom, if_neg (h d List.mem_cons_self), ih (fun c hc => h c (List.mem_cons_of_mem _ hc))]
    simp
def NoLf (l : Bytes) : Prop := ∀ c ∈ l, c ≠ 10
theorem split_join (ls : List Bytes) (h : ∀ l ∈ ls, NoLf l) : splitFrom [] (joinL ls) = ls := by
  induction ls with
  | nil => rfl
  | cons l ls ih =>
    have e : joinL (l :: ls) = l ++ 10 :: joinL ls := by unfold joinL; simp
    rw [e, splitFrom_line l (h l List.mem_cons_self), ih (fun x hx => h x (List.mem_cons_of_mem _ hx))]
    simp

def edgeL (e : Ed) : Bytes := gOf e.k ++ pnt 88 e.b 89 ++ arcT e ++ [68, 48, 49, 42]
def moveL (p : Pt) : Bytes := pnt 88 p 89 ++ [68, 48, 50, 42]
def flashL (p : Pt) : Bytes := pnt 88 p 89 ++ [68, 48, 51, 42]
def edgesL : List Ed → List Bytes
  | [] => []
  | e :: l => moveL e.a :: (e :: l).map edgeL
def pathL (s : Sh) : List Bytes := match flash s with
  | some p => [flashL p]
  | none => edgesL s.es
def g36 : Bytes := [71, 51, 54, 42]
def g37 : Bytes := [71, 51, 55, 42]
def selB (n : Nat) : Bytes := 68 :: (Lib.itoa n ++ [42])
def selL (rs : List Int) (ap : Nat) (s : Sh) : List Bytes := if s.k = 2 ∨ num rs s.r = ap then [] else [selB (num rs s.r)]
def shapeL (s : Sh) : List Bytes := if s.k = 2 then g36 :: (edgesL s.es ++ [g37]) else pathL s
def polB (c : Bool) : Bytes := if c then [37, 76, 80, 67, 42, 37] else [37, 76, 80, 68, 42, 37]
def polL (c d : Bool) : List Bytes := if d = c then [] else [polB d]
def bodyL (rs : List Int) : Bool → Nat → List Dr → List Bytes
  | _, _, [] => []
  | c, ap, d :: ds => polL c d.clear ++ (selL rs ap d.s ++ (shapeL d.s ++ bodyL rs d.clear (apOf rs ap d.s) ds))
def headL : List Bytes := [[71, 48, 52, 32, 101, 116, 99, 104, 97, 110, 116, 42], [37, 70, 83, 76, 65, 88, 57, 48, 89, 57, 48, 42, 37], [37, 77, 79, 77, 77, 42, 37]]
def apB (k : Nat) (r : Int) : Bytes := [37, 65, 68, 68] ++ Lib.itoa (10 + k : Nat) ++ [67, 44] ++ Lib.itoa (2 * r) ++ [42, 37]
/-- The apertures from the k-th on. -/
def apsL : Nat → List Int → List Bytes
  | _, [] => []
  | k, r :: rs => apB k r :: apsL (k + 1) rs
def m02 : Bytes := [77, 48, 50, 42]
def fileL (ds : List Dr) : List Bytes := headL ++ (apsL 0 (radii ds) ++ (polB false :: (bodyL (radii ds) false 0 ds ++ [m02])))

theorem edge_line (e : Ed) : edgeT e = edgeL e ++ [10] := by unfold edgeT edgeL; simp
theorem edges_lines (l : List Ed) : edgesT l = joinL (edgesL l) := by
  cases l with
  | nil => rfl
  | cons e l =>
    unfold edgesT edgesL joinL
    rw [List.flatMap_cons (x := moveL e.a), List.flatMap_map]
    have h2 : edgeT = fun a => edgeL a ++ [10] := funext edge_line
    rw [h2]; unfold moveL; simp
theorem path_lines (s : Sh) : pathT s = joinL (pathL s) := by
  unfold pathT pathL
  cases flash s with
  | none => exact edges_lines _
  | some p => unfold joinL flashL; simp
theorem shape_lines (s : Sh) : shapeT s = joinL (shapeL s) := by
  unfold shapeT shapeL
  by_cases h : s.k = 2
  · rw [if_pos h, if_pos h, edges_lines]
    unfold joinL g36 g37; simp
  · rw [if_neg h, if_neg h, path_lines]
theorem sel_lines (rs : List Int) (ap : Nat) (s : Sh) : selT rs ap s = joinL (selL rs ap s) := by
  unfold selT selL
  by_cases h : s.k = 2 ∨ num rs s.r = ap
  · rw [if_pos h, if_pos h]; rfl
  · rw [if_neg h, if_neg h]; unfold joinL selB; simp
theorem pol_lines (c d : Bool) : polT c d = joinL (polL c d) := by cases c <;> cases d <;> rfl
theorem fold_lines (rs : List Int) (ds : List Dr) : ∀ st : St, (ds.foldl (step rs) st).t = st.t ++ joinL (bodyL rs st.c st.ap ds) := by
  induction ds with
  | nil => intro st; simp [bodyL, joinL]
  | cons d ds ih =>
    intro st
    rw [List.foldl_cons, ih]
    have e : ∀ c ap, bodyL rs c ap (d :: ds) = polL c d.clear ++ (selL rs ap d.s ++ (shapeL d.s ++ bodyL rs d.clear (apOf rs ap d.s) ds)) := fun _ _ => rfl
    rw [e, joinL_append, joinL_append, joinL_append, ← pol_lines, ← sel_lines, ← shape_lines]
    unfold step
    dsimp only
    simp only [List.append_assoc]
theorem aps_lines (rs : List Int) : ∀ k, k ≤ rs.length → apsTo rs rs.length = apsTo rs k ++ joinL (apsL k (rs.drop k)) := by
  intro k hk
  induction hn : rs.length - k generalizing k with
  | zero =>
    have : k = rs.length := by omega
    subst this
    rw [List.drop_length]; simp [apsL, joinL]
  | succ n ih =>
    have hlt : k < rs.length := by omega
    rw [ih (k + 1) (by omega) (by omega), List.drop_eq_getElem_cons hlt]
    have e2 : ∀ (k : Nat) (r : Int) (l : List Int), apsL k (r :: l) = apB k r :: apsL (k + 1) l := fun _ _ _ => rfl
    rw [e2]
    have e : apsTo rs (k + 1) = apsTo rs k ++ (apB k rs[k] ++ [10]) := by
      show apsTo rs k ++ _ = _
      rw [List.getElem?_eq_getElem hlt]
      unfold apT apB; simp
    rw [e]
    unfold joinL
    rw [List.flatMap_cons, List.append_assoc]
theorem file_lines (ds : List Dr) : fileT ds = joinL (fileL ds) := by
  unfold fileT runTo fileL
  rw [List.take_length, fold_lines]
  unfold start
  rw [aps_lines (radii ds) 0 (Nat.zero_le _), List.drop_zero, joinL_append, joinL_append]
  have h : apsTo (radii ds) 0 = joinL headL := rfl
  rw [h]
  have e : ∀ l, joinL (polB false :: (l ++ [m02])) = polOf false ++ joinL l ++ [77, 48, 50, 42, 10] := fun l => by unfold joinL polB polOf m02; simp
  rw [e]
  simp only [List.append_assoc]

/-! ### No line holds a line feed -/

theorem itoa_noLf (n : Int) : NoLf (Lib.itoa n) := fun c hc e => by
  have := itoa_byte n c hc
  rw [e] at this
  rcases this with h | h
  · exact absurd h (by decide)
  · exact absurd h.1 (by decide)
theorem NoLf.app {a b : Bytes} (h : NoLf a) (k : NoLf b) : NoLf (a ++ b) := fun c hc => by
  rcases List.mem_append.1 hc with hc | hc
  · exact h c hc
  · exact k c hc
theorem NoLf.cons {a : UInt8} {b : Bytes} (h : a ≠ 10) (k : NoLf b) : NoLf (a :: b) := fun c hc => by
  rcases List.mem_cons.1 hc with rfl | hc
  · exact h
  · exact k c hc
theorem pnt_noLf {x y : UInt8} (hx : x ≠ 10) (hy : y ≠ 10) (p : Pt) : NoLf (pnt x p y) := .cons hx ((itoa_noLf _).app (.cons hy (itoa_noLf _)))
theorem edgeL_noLf (e : Ed) : NoLf (edgeL e) := by
  unfold edgeL
  refine ((NoLf.app ?_ (pnt_noLf (by decide) (by decide) _)).app ?_).app (by unfold NoLf; decide)
  · unfold gOf NoLf; split; decide; split <;> decide
  · unfold arcT; split; exact fun _ h => by cases h
    exact pnt_noLf (by decide) (by decide) _
theorem moveL_noLf (p : Pt) : NoLf (moveL p) := (pnt_noLf (by decide) (by decide) _).app (by unfold NoLf; decide)
theorem flashL_noLf (p : Pt) : NoLf (flashL p) := (pnt_noLf (by decide) (by decide) _).app (by unfold NoLf; decide)
theorem edgesL_noLf (es : List Ed) : ∀ l ∈ edgesL es, NoLf l := fun l hl => by
  cases es with
  | nil => cases hl
  | cons e es =>
    rcases List.mem_cons.1 hl with rfl | hl
    · exact moveL_noLf _
    · obtain ⟨x, _, rfl⟩ := List.mem_map.1 hl; exact edgeL_noLf x
theorem shapeL_noLf (s : Sh) : ∀ l ∈ shapeL s, NoLf l := fun l hl => by
  unfold shapeL at hl
  split at hl
  · rcases List.mem_cons.1 hl with rfl | hl
    · unfold NoLf g36; decide
    · rcases List.mem_append.1 hl with hl | hl
      · exact edgesL_noLf _ l hl
      · rw [List.mem_singleton.1 hl]; unfold NoLf g37; decide
  · unfold pathL at hl
    split at hl
    · rw [List.mem_singleton.1 hl]; exact flashL_noLf _
    · exact edgesL_noLf _ l hl
theorem selL_noLf (rs : List Int) (ap : Nat) (s : Sh) : ∀ l ∈ selL rs ap s, NoLf l := fun l hl => by
  unfold selL at hl
  split at hl
  · cases hl
  · rw [List.mem_singleton.1 hl]; exact .cons (by decide) ((itoa_noLf _).app (by unfold NoLf; decide))
theorem polB_noLf (c : Bool) : NoLf (polB c) := by cases c <;> (unfold NoLf polB; decide)
theorem bodyL_noLf (rs : List Int) (ds : List Dr) : ∀ c ap, ∀ l ∈ bodyL rs c ap ds, NoLf l := by
  induction ds with
  | nil => intro _ _ l h; cases h
  | cons d ds ih =>
    intro c ap l hl
    unfold bodyL at hl
    rcases List.mem_append.1 hl with hl | hl
    · unfold polL at hl
      split at hl
      · cases hl
      · rw [List.mem_singleton.1 hl]; exact polB_noLf _
    · rcases List.mem_append.1 hl with hl | hl
      · exact selL_noLf _ _ _ l hl
      · rcases List.mem_append.1 hl with hl | hl
        · exact shapeL_noLf _ l hl
        · exact ih _ _ l hl
theorem apsL_noLf (rs : List Int) : ∀ k, ∀ l ∈ apsL k rs, NoLf l := by
  induction rs with
  | nil => intro _ l h; cases h
  | cons r rs ih =>
    intro k l hl
    rcases List.mem_cons.1 hl with rfl | hl
    · unfold apB
      exact ((((show NoLf _ by unfold NoLf; decide).app (itoa_noLf _)).app (by unfold NoLf; decide)).app (itoa_noLf _)).app (by unfold NoLf; decide)
    · exact ih _ l hl
theorem fileL_noLf (ds : List Dr) : ∀ l ∈ fileL ds, NoLf l := fun l hl => by
  unfold fileL at hl
  rcases List.mem_append.1 hl with hl | hl
  · have : ∀ x ∈ headL, NoLf x := by unfold NoLf; decide
    exact this l hl
  · rcases List.mem_append.1 hl with hl | hl
    · exact apsL_noLf _ _ l hl
    · rcases List.mem_cons.1 hl with rfl | hl
      · exact polB_noLf _
      · rcases List.mem_append.1 hl with hl | hl
        · exact bodyL_noLf _ _ _ _ l hl
        · rw [List.mem_singleton.1 hl]; unfold NoLf m02; decide
theorem split_file (ds : List Dr) : splitFrom [] (fileT ds) = fileL ds := by rw [file_lines, split_join _ (fileL_noLf ds)]

/-! ### Different drawings have different files -/

/-- What a line begins with: its first two bytes tell the commands apart. -/
def k1 (l : Bytes) : UInt8 := l.headD 0
def k2 (l : Bytes) : UInt8 := (l.drop 1).headD 0
def k3 (l : Bytes) : UInt8 := (l.drop 2).headD 0
theorem k1_pol (c : Bool) : k1 (polB c) = 37 := by cases c <;> rfl
theorem k1_sel (n : Nat) : k1 (selB n) = 68 := rfl
theorem k1_move (p : Pt) : k1 (moveL p) = 88 := rfl
theorem k1_flash (p : Pt) : k1 (flashL p) = 88 := rfl
theorem k1_edge (e : Ed) : k1 (edgeL e) = 71 ∧ k2 (edgeL e) = 48 := by
  unfold edgeL gOf
  split
  · exact ⟨rfl, rfl⟩
  · split <;> exact ⟨rfl, rfl⟩

theorem gOf_inj {e f : Ed} (he : chkE e = 0) (hf : chkE f = 0) (h : gOf e.k = gOf f.k) : e.k = f.k := by
  have h1 := (Go.Proofs.YtggplbenliaodaaGreatDoor.chkE_zero he).1
  have h2 := (Go.Proofs.YtggplbenliaodaaGreatDoor.chkE_zero hf).1
  rcases h1 with h1 | h1 | h1 <;> rcases h2 with h2 | h2 | h2 <;> rw [h1, h2] at h ⊢ <;> first | rfl | exact absurd h (by decide)
theorem edgeL_inj {e f : Ed} (ha : e.a = f.a) (he : chkE e = 0) (hf : chkE f = 0) (h : edgeL e = edgeL f) : e = f := by
  unfold edgeL at h
  simp only [List.append_assoc] at h
  have hl : (gOf e.k).length = (gOf f.k).length := by
    have : ∀ k, (gOf k).length = 3 := fun k => by unfold gOf; split; rfl; split <;> rfl
    rw [this, this]
  obtain ⟨h1, h2⟩ := List.append_inj h hl
  have hk := gOf_inj he hf h1
  clear h1
  have he5 := (Go.Proofs.YtggplbenliaodaaGreatDoor.chkE_zero he).2.2.2.2.1
  have hf5 := (Go.Proofs.YtggplbenliaodaaGreatDoor.chkE_zero hf).2.2.2.2.1
  obtain ⟨ek, ea, eb, ec⟩ := e
  obtain ⟨fk, fa, fb, fc⟩ := f
  dsimp only at ha hk h2 he5 hf5
  subst ha; subst hk
  unfold arcT at h2
  dsimp only at h2
  by_cases h1 : ek = 1
  · rw [if_pos h1, if_pos h1, List.nil_append] at h2
    obtain ⟨rfl, _⟩ := pnt_cut (by decide) (by decide) (by decide) h2
    rw [he5 h1, hf5 h1]
  · rw [if_neg h1, if_neg h1] at h2
    have hp : ∀ (p : Pt) (t : Bytes), pnt 73 p 74 ++ t = 73 :: (Lib.itoa p.x ++ 74 :: Lib.itoa p.y ++ t) := fun p t => by unfold pnt; simp
    rw [hp, hp] at h2
    obtain ⟨rfl, _, h3⟩ := pnt_cut (by decide) (by decide) (by decide) h2
    have h4 : pnt 73 (sub ec ea) 74 ++ 68 :: [48, 49, 42] = pnt 73 (sub fc ea) 74 ++ 68 :: [48, 49, 42] := by
      rw [hp, hp, h3]
    obtain ⟨h5, _⟩ := pnt_cut (by decide) (by decide) (by decide) h4
    obtain ⟨ex, ey⟩ := ec
    obtain ⟨fx, fy⟩ := fc
    unfold sub at h5
    simp only [Pt.mk.injEq] at h5
    have e1 : ex = fx := by omega
    have e2 : ey = fy := by omega
    rw [e1, e2]
theorem map_inj : ∀ {l m : List Ed} {R S : List Bytes} {p : Pt} (_ : ∀ e ∈ l, chkE e = 0) (_ : ∀ e ∈ m, chkE e = 0) (_ : chain l = true) (_ : chain m = true) (_ : ∀ e, l.head? = some e → e.a = p) (_ : ∀ e, m.head? = some e → e.a = p)
    (_ : ∀ x, R.head? = some x → ¬ (k1 x = 71 ∧ k2 x = 48)) (_ : ∀ x, S.head? = some x → ¬ (k1 x = 71 ∧ k2 x = 48)) (_ : l.map edgeL ++ R = m.map edgeL ++ S), l = m ∧ R = S
  | [], [], _, _, _, _, _, _, _, _, _, _, _, h => ⟨rfl, h⟩
  | [], f :: m, R, S, _, _, _, _, _, _, _, hR, _, h => by
    simp only [List.map_nil, List.nil_append, List.map_cons, List.cons_append] at h
    exact absurd (k1_edge f) (hR _ (by rw [h]; rfl))
  | e :: l, [], R, S, _, _, _, _, _, _, _, _, hS, h => by
    simp only [List.map_nil, List.nil_append, List.map_cons, List.cons_append] at h
    exact absurd (k1_edge e) (hS _ (by rw [← h]; rfl))
  | e :: l, f :: m, R, S, p, he, hf, hc, hd, ha, hb, hR, hS, h => by
    simp only [List.map_cons, List.cons_append] at h
    injection h with h1 h2
    have e1 : e = f := edgeL_inj ((ha e rfl).trans (hb f rfl).symm) (he e List.mem_cons_self) (hf f List.mem_cons_self) h1
    subst e1
    have c1 : ∀ {l : List Ed}, chain (e :: l) = true → chain l = true ∧ ∀ x, l.head? = some x → x.a = e.b := fun {l} hc => by
      cases l with
      | nil => exact ⟨rfl, fun x hx => by cases hx⟩
      | cons y l =>
        unfold chain at hc
        rw [Bool.and_eq_true] at hc
        refine ⟨hc.2, fun x hx => ?_⟩
        injection hx with hx
        subst hx
        exact (of_decide_eq_true hc.1).symm
    obtain ⟨h3, h4⟩ := map_inj (fun x hx => he x (List.mem_cons_of_mem _ hx)) (fun x hx => hf x (List.mem_cons_of_mem _ hx)) (c1 hc).1 (c1 hd).1 (c1 hc).2 (c1 hd).2 hR hS h2
    exact ⟨by rw [h3], h4⟩
theorem edgesL_inj {l m : List Ed} {R S : List Bytes} (hl : 0 < l.length) (hm : 0 < m.length) (he : ∀ e ∈ l, chkE e = 0) (hf : ∀ e ∈ m, chkE e = 0) (hc : chain l = true) (hd : chain m = true)
    (hR : ∀ x, R.head? = some x → ¬ (k1 x = 71 ∧ k2 x = 48)) (hS : ∀ x, S.head? = some x → ¬ (k1 x = 71 ∧ k2 x = 48)) (h : edgesL l ++ R = edgesL m ++ S) : l = m ∧ R = S := by
  match l, m, hl, hm with
  | e :: l, f :: m, _, _ =>
    have e1 : ∀ (e : Ed) (l : List Ed) (R : List Bytes), edgesL (e :: l) ++ R = moveL e.a :: ((e :: l).map edgeL ++ R) := fun _ _ _ => rfl
    rw [e1, e1] at h
    injection h with h1 h2
    have ha : e.a = f.a := by
      unfold moveL at h1
      exact (pnt_cut (by decide) (by decide) (by decide) h1).1
    exact map_inj he hf hc hd (fun x hx => by injection hx with hx; subst hx; rfl) (fun x hx => by injection hx with hx; subst hx; exact ha.symm) hR hS h2
/-- What a valid shape is made of. -/
theorem chk_shape {s : Sh} (h : chk s = 0) : (s.k = 1 ∨ s.k = 2) ∧ 0 < s.es.length ∧ (∀ e ∈ s.es, chkE e = 0) ∧ chain s.es = true ∧ (s.k = 2 → s.r = 0) := by
  have h0 := h
  unfold chk at h
  split at h
  · exact absurd h (by decide)
  · rename_i h1
    split at h
    · exact absurd h (by decide)
    · split at h
      · rename_i h2; exact absurd h h2
      · rename_i h2
        split at h
        · exact absurd h (by decide)
        · rename_i h3
          split at h
          · exact absurd h (by decide)
          · rename_i h4
            refine ⟨by omega, by omega, fun e he => firstErr_zero.1 (by omega) e he, ?_, by omega⟩
            cases hc : chain s.es
            · exact absurd (.inl hc) h3
            · rfl
theorem flash_some {s : Sh} (h : chk s = 0) {p : Pt} (hf : flash s = some p) : s.es = [⟨1, p, p, ⟨0, 0⟩⟩] := by
  obtain ⟨_, _, h3, _, _⟩ := chk_shape h
  obtain ⟨k, es, r⟩ := s
  unfold flash at hf
  dsimp only at hf h3 ⊢
  match es, hf, h3 with
  | [e], hf, h3 =>
    dsimp only at hf
    split at hf
    · rename_i hc
      injection hf with hf
      have := (Go.Proofs.YtggplbenliaodaaGreatDoor.chkE_zero (h3 e (by simp))).2.2.2.2.1 hc.1
      obtain ⟨ek, ea, eb, ec⟩ := e
      dsimp only at hf hc this
      rw [hc.1, ← hc.2, hf, this]
    · cases hf
  | [], hf, _ => cases hf
  | _ :: _ :: _, hf, _ => cases hf
theorem flash_move {p q : Pt} : flashL p ≠ moveL q := fun h => by
  unfold flashL moveL at h
  have := (pnt_cut (by decide) (by decide) (by decide) h).2.2
  exact absurd this (by decide)
/-- A line that is no edge. -/
def Not5 (R : List Bytes) : Prop := ∀ x, R.head? = some x → ¬ (k1 x = 71 ∧ k2 x = 48)
theorem path_inj {s t : Sh} {R S : List Bytes} (hs : chk s = 0) (ht : chk t = 0) (hR : Not5 R) (hS : Not5 S) (h : pathL s ++ R = pathL t ++ S) : s.es = t.es ∧ R = S := by
  obtain ⟨_, a2, a3, a4, _⟩ := chk_shape hs
  obtain ⟨_, b2, b3, b4, _⟩ := chk_shape ht
  unfold pathL at h
  cases hf : flash s with
  | some p =>
    cases hg : flash t with
    | some q =>
      rw [hf, hg] at h
      injection h with h1 h2
      have hp : p = q := (pnt_cut (by decide) (by decide) (by decide) h1).1
      rw [flash_some hs hf, flash_some ht hg, hp]
      exact ⟨rfl, h2⟩
    | none =>
      rw [hf, hg] at h
      match hq : t.es, b2 with
      | e :: l, _ =>
        rw [hq] at h
        injection h with h1 _
        exact absurd h1 flash_move
  | none =>
    cases hg : flash t with
    | some q =>
      rw [hf, hg] at h
      match hq : s.es, a2 with
      | e :: l, _ =>
        rw [hq] at h
        injection h with h1 _
        exact absurd h1.symm flash_move
    | none =>
      rw [hf, hg] at h
      exact edgesL_inj a2 b2 a3 b3 a4 b4 hR hS h
/-- What begins a shape's lines. -/
theorem pathL_head {s : Sh} (h : chk s = 0) (R : List Bytes) : ∃ x t, pathL s ++ R = x :: t ∧ k1 x = 88 := by
  obtain ⟨_, a2, _⟩ := chk_shape h
  unfold pathL
  cases flash s with
  | some p => exact ⟨_, _, rfl, rfl⟩
  | none =>
    match hq : s.es, a2 with
    | e :: l, _ => exact ⟨_, _, rfl, rfl⟩
theorem shapeL_head {s : Sh} (h : chk s = 0) (R : List Bytes) : ∃ x t, shapeL s ++ R = x :: t ∧ k1 x ≠ 37 ∧ k1 x ≠ 77 ∧ k1 x ≠ 68 ∧ ¬ (k1 x = 71 ∧ k2 x = 48) ∧ (k1 x = 71 ↔ s.k = 2) := by
  unfold shapeL
  by_cases hk : s.k = 2
  · rw [if_pos hk]
    refine ⟨_, _, rfl, ?_⟩
    simp [k1, k2, g36, hk]
  · rw [if_neg hk]
    obtain ⟨x, t, e, hx⟩ := pathL_head h R
    refine ⟨x, t, e, ?_⟩
    rw [hx]
    simp [hk]
theorem selL_head (rs : List Int) (ap : Nat) {s : Sh} (h : chk s = 0) (R : List Bytes) : ∃ x t, selL rs ap s ++ (shapeL s ++ R) = x :: t ∧ k1 x ≠ 37 ∧ k1 x ≠ 77 ∧ ¬ (k1 x = 71 ∧ k2 x = 48) := by
  unfold selL
  split
  · obtain ⟨x, t, e, h1, h2, _, h3, _⟩ := shapeL_head h R
    exact ⟨x, t, e, h1, h2, h3⟩
  · refine ⟨_, _, rfl, ?_⟩
    simp [k1_sel]
theorem bodyL_head (rs : List Int) (c : Bool) (ap : Nat) {d : Dr} (h : chk d.s = 0) (ds : List Dr) (R : List Bytes) : ∃ x t, bodyL rs c ap (d :: ds) ++ R = x :: t ∧ k1 x ≠ 77 ∧ ¬ (k1 x = 71 ∧ k2 x = 48) := by
  have e : bodyL rs c ap (d :: ds) ++ R = polL c d.clear ++ (selL rs ap d.s ++ (shapeL d.s ++ (bodyL rs d.clear (apOf rs ap d.s) ds ++ R))) := by
    rw [bodyL]; simp only [List.append_assoc]
  rw [e]
  unfold polL
  split
  · obtain ⟨x, t, e, _, h2, h3⟩ := selL_head rs ap h (bodyL rs d.clear (apOf rs ap d.s) ds ++ R)
    exact ⟨x, t, e, h2, h3⟩
  · refine ⟨_, _, rfl, ?_⟩
    rw [k1_pol]
    exact ⟨by decide, fun h => absurd h.1 (by decide)⟩
theorem not5_rest (rs : List Int) (c : Bool) (ap : Nat) (ds : List Dr) (h : ∀ d ∈ ds, chk d.s = 0) : Not5 (bodyL rs c ap ds ++ [m02]) := fun x hx => by
  cases ds with
  | nil =>
    injection hx with hx
    subst hx; decide
  | cons d ds =>
    obtain ⟨y, t, e, _, h3⟩ := bodyL_head rs c ap (h d List.mem_cons_self) ds [m02]
    rw [e] at hx
    injection hx with hx
    subst hx; exact h3
theorem num_inj {rs : List Int} {r q : Int} (hr : r ∈ rs) (hq : q ∈ rs) (h : num rs r = num rs q) : r = q := by
  unfold num at h
  have h1 : rs.idxOf r = rs.idxOf q := by omega
  have h2 : rs.idxOf r < rs.length := List.idxOf_lt_length_of_mem hr
  have e1 := List.getElem_idxOf h2
  have e2 := List.getElem_idxOf (List.idxOf_lt_length_of_mem hq)
  rw [← e1, ← e2]
  congr 1
theorem selB_inj {n m : Nat} (h : selB n = selB m) : n = m := by
  unfold selB at h
  injection h with _ h
  have := (itoa_cut (by decide) (by decide) h).1
  omega
theorem draw_inj {rs : List Int} {ap : Nat} {s t : Sh} {R S : List Bytes} (hs : chk s = 0) (ht : chk t = 0) (hsr : s.k = 1 → s.r ∈ rs) (htr : t.k = 1 → t.r ∈ rs) (hR : Not5 R) (hS : Not5 S)
    (h : selL rs ap s ++ (shapeL s ++ R) = selL rs ap t ++ (shapeL t ++ S)) : s = t ∧ R = S := by
  obtain ⟨a1, a2, a3, a4, a5⟩ := chk_shape hs
  obtain ⟨b1, b2, b3, b4, b5⟩ := chk_shape ht
  obtain ⟨x, u, ex, _, _, hx1, _, hx2⟩ := shapeL_head hs R
  obtain ⟨y, v, ey, _, _, hy1, _, hy2⟩ := shapeL_head ht S
  have main : s.k = t.k → s.r = t.r → shapeL s ++ R = shapeL t ++ S → s = t ∧ R = S := by
    intro hk hr h
    unfold shapeL at h
    by_cases h2 : s.k = 2
    · rw [if_pos h2, if_pos (hk ▸ h2)] at h
      simp only [List.cons_append, List.append_assoc] at h
      injection h with _ h
      have hg : ∀ R : List Bytes, Not5 (g37 :: R) := fun R x hx => by
        injection hx with hx
        subst hx; decide
      obtain ⟨e1, e2⟩ := edgesL_inj a2 b2 a3 b3 a4 b4 (hg R) (hg S) h
      injection e2 with _ e2
      refine ⟨?_, e2⟩
      obtain ⟨_, _, _⟩ := s
      obtain ⟨_, _, _⟩ := t
      dsimp only at hk hr e1
      rw [hk, hr, e1]
    · rw [if_neg h2, if_neg (hk ▸ h2)] at h
      obtain ⟨e1, e2⟩ := path_inj hs ht hR hS h
      refine ⟨?_, e2⟩
      obtain ⟨_, _, _⟩ := s
      obtain ⟨_, _, _⟩ := t
      dsimp only at hk hr e1
      rw [hk, hr, e1]
  unfold selL at h
  by_cases hs2 : s.k = 2
  · by_cases ht2 : t.k = 2
    · rw [if_pos (.inl hs2), if_pos (.inl ht2)] at h
      exact main (hs2.trans ht2.symm) ((a5 hs2).trans (b5 ht2).symm) h
    · exfalso
      rw [if_pos (.inl hs2), List.nil_append, ex] at h
      have hx71 := hx2.2 hs2
      split at h
      · rw [List.nil_append, ey] at h
        injection h with h _
        subst h
        exact ht2 (hy2.1 hx71)
      · injection h with h _
        subst h
        exact absurd hx71 (by rw [k1_sel]; decide)
  · have hs1 : s.k = 1 := by omega
    by_cases ht2 : t.k = 2
    · exfalso
      have et : (if t.k = 2 ∨ num rs t.r = ap then [] else [selB (num rs t.r)]) = [] := if_pos (.inl ht2)
      rw [et, List.nil_append, ey] at h
      have hy71 := hy2.2 ht2
      split at h
      · rw [List.nil_append, ex] at h
        injection h with h _
        subst h
        exact hs2 (hx2.1 hy71)
      · injection h with h _
        subst h
        exact absurd hy71 (by rw [k1_sel]; decide)
    · have ht1 : t.k = 1 := by omega
      by_cases hn : num rs s.r = ap
      · rw [if_pos (.inr hn)] at h
        by_cases hm : num rs t.r = ap
        · rw [if_pos (.inr hm)] at h
          exact main (hs1.trans ht1.symm) (num_inj (hsr hs1) (htr ht1) (hn.trans hm.symm)) h
        · exfalso
          rw [if_neg (by rintro (h | h); exact ht2 h; exact hm h), List.nil_append, ex] at h
          injection h with h _
          subst h
          exact hx1 (k1_sel _)
      · rw [if_neg (by rintro (h | h); exact hs2 h; exact hn h)] at h
        by_cases hm : num rs t.r = ap
        · exfalso
          rw [if_pos (.inr hm), List.nil_append, ey] at h
          injection h with h _
          subst h
          exact hy1 (k1_sel _)
        · rw [if_neg (by rintro (h | h); exact ht2 h; exact hm h)] at h
          injection h with h h'
          exact main (hs1.trans ht1.symm) (num_inj (hsr hs1) (htr ht1) (selB_inj h)) h'
theorem polB_inj {c d : Bool} (h : polB c = polB d) : c = d := by cases c <;> cases d <;> first | rfl | exact absurd h (by decide)
theorem body_inj {rs : List Int} : ∀ {ds es : List Dr} {c : Bool} {ap : Nat} (_ : ∀ d ∈ ds, chk d.s = 0 ∧ (d.s.k = 1 → d.s.r ∈ rs)) (_ : ∀ d ∈ es, chk d.s = 0 ∧ (d.s.k = 1 → d.s.r ∈ rs)) (_ : bodyL rs c ap ds ++ [m02] = bodyL rs c ap es ++ [m02]), ds = es
  | [], [], _, _, _, _, _ => rfl
  | [], e :: es, c, ap, _, he, h => by
    obtain ⟨x, t, ex, h1, _⟩ := bodyL_head rs c ap (he e List.mem_cons_self).1 es [m02]
    rw [ex] at h
    injection h with h _
    subst h
    exact absurd rfl h1
  | d :: ds, [], c, ap, hd, _, h => by
    obtain ⟨x, t, ex, h1, _⟩ := bodyL_head rs c ap (hd d List.mem_cons_self).1 ds [m02]
    rw [ex] at h
    injection h with h _
    subst h
    exact absurd rfl h1
  | d :: ds, e :: es, c, ap, hd, he, h => by
    have ev : ∀ (d : Dr) (ds : List Dr), bodyL rs c ap (d :: ds) ++ [m02] = polL c d.clear ++ (selL rs ap d.s ++ (shapeL d.s ++ (bodyL rs d.clear (apOf rs ap d.s) ds ++ [m02]))) := fun d ds => by
      rw [bodyL]; simp only [List.append_assoc]
    rw [ev, ev] at h
    have hd0 := hd d List.mem_cons_self
    have he0 := he e List.mem_cons_self
    have hRd := not5_rest rs d.clear (apOf rs ap d.s) ds fun x hx => (hd x (List.mem_cons_of_mem _ hx)).1
    have hRe := not5_rest rs e.clear (apOf rs ap e.s) es fun x hx => (he x (List.mem_cons_of_mem _ hx)).1
    obtain ⟨x, u, ex, hx37, _⟩ := selL_head rs ap hd0.1 (bodyL rs d.clear (apOf rs ap d.s) ds ++ [m02])
    obtain ⟨y, v, ey, hy37, _⟩ := selL_head rs ap he0.1 (bodyL rs e.clear (apOf rs ap e.s) es ++ [m02])
    have fin : d.clear = e.clear → selL rs ap d.s ++ (shapeL d.s ++ (bodyL rs d.clear (apOf rs ap d.s) ds ++ [m02])) = selL rs ap e.s ++ (shapeL e.s ++ (bodyL rs e.clear (apOf rs ap e.s) es ++ [m02])) → d :: ds = e :: es := by
      intro hcl h
      obtain ⟨h1, h2⟩ := draw_inj hd0.1 he0.1 hd0.2 he0.2 hRd hRe h
      rw [← h1, ← hcl] at h2
      have := body_inj (fun x hx => hd x (List.mem_cons_of_mem _ hx)) (fun x hx => he x (List.mem_cons_of_mem _ hx)) h2
      rw [this]
      obtain ⟨_, _⟩ := d
      obtain ⟨_, _⟩ := e
      dsimp only at h1 hcl
      rw [h1, hcl]
    unfold polL at h
    by_cases hdc : d.clear = c
    · rw [if_pos hdc, List.nil_append] at h
      by_cases hec : e.clear = c
      · rw [if_pos hec, List.nil_append] at h
        exact fin (hdc.trans hec.symm) h
      · exfalso
        rw [if_neg hec, ex] at h
        injection h with h _
        subst h
        exact hx37 (k1_pol _)
    · rw [if_neg hdc] at h
      by_cases hec : e.clear = c
      · exfalso
        rw [if_pos hec, List.nil_append, ey] at h
        injection h with h _
        subst h
        exact hy37 (k1_pol _)
      · rw [if_neg hec] at h
        injection h with h1 h2
        exact fin (polB_inj h1) h2
theorem apB_inj {k : Nat} {r q : Int} (h : apB k r = apB k q) : r = q := by
  unfold apB at h
  simp only [List.append_assoc, List.cons_append, List.nil_append] at h
  injection h with _ h; injection h with _ h; injection h with _ h; injection h with _ h
  obtain ⟨_, _, h⟩ := itoa_cut (by decide) (by decide) h
  injection h with _ h
  have := (itoa_cut (by decide) (by decide) h).1
  omega
theorem aps_inj : ∀ {rs qs : List Int} {k : Nat} {R S : List Bytes} (_ : apsL k rs ++ (polB false :: R) = apsL k qs ++ (polB false :: S)), rs = qs ∧ R = S
  | [], [], _, _, _, h => by
    injection h with _ h
    exact ⟨rfl, h⟩
  | [], q :: qs, k, R, S, h => by
    exfalso
    have h1 := List.cons.inj h
    have : k2 (polB false) = k2 (apB k q) := by rw [h1.1]
    exact absurd this (by unfold k2 polB apB; simp)
  | r :: rs, [], k, R, S, h => by
    exfalso
    have h1 := List.cons.inj h
    have : k2 (apB k r) = k2 (polB false) := by rw [h1.1]
    exact absurd this (by unfold k2 polB apB; simp)
  | r :: rs, q :: qs, k, R, S, h => by
    have h1 := List.cons.inj h
    obtain ⟨e1, e2⟩ := aps_inj h1.2
    exact ⟨by rw [apB_inj h1.1, e1], e2⟩
theorem file_inj {ds es : List Dr} (hd : ∀ d ∈ ds, chk d.s = 0) (he : ∀ d ∈ es, chk d.s = 0) (h : fileT ds = fileT es) : ds = es := by
  have h1 : fileL ds = fileL es := by rw [← split_file, h, split_file]
  unfold fileL at h1
  have h2 := List.append_cancel_left h1
  obtain ⟨h3, h4⟩ := aps_inj h2
  refine body_inj (rs := radii es) (fun d hx => ⟨hd d hx, fun hk => ?_⟩) (fun d hx => ⟨he d hx, fun hk => (mem_radii es _).2 ⟨d, hx, hk, rfl⟩⟩) (by rw [← h3]; rw [← h3] at h4; exact h4)
  rw [← h3]
  exact (mem_radii ds _).2 ⟨d, hx, hk, rfl⟩

end Pl
