/- Numbers and points as both sides write them. Condition: coordinates within 2^61. -/
import Derived.Test.YtggplbenliaodaaDoorBw
namespace Go.Proofs.YtggplbenliaodaaDoor
open Go.RowKit Go.Lib

theorem dec_small {u : Nat} (h : u < 10) : Lib.decDigits u = [UInt8.ofNat (48 + u)] := by rw [Lib.decDigits, dif_pos h]
theorem dec_big {u : Nat} (h : ¬ u < 10) : Lib.decDigits u = Lib.decDigits (u / 10) ++ [UInt8.ofNat (48 + u % 10)] := by rw [Lib.decDigits, dif_neg h]
theorem digit_toNat {d : Nat} (h : d < 10) : (UInt8.ofNat (48 + d)).toNat = 48 + d := by
  simp [UInt8.toNat_ofNat']; omega
theorem itoa_digit {n : Int} (h0 : 0 ≤ n) (h1 : n < 10) : Lib.itoa n = [UInt8.ofNat (48 + n.toNat)] := by
  unfold Lib.itoa; rw [if_neg (by omega), dec_small (by omega)]
theorem itoa_big {n : Int} (h1 : 10 ≤ n) : Lib.itoa n = Lib.itoa (n / 10) ++ Lib.itoa (n % 10) := by
  rw [itoa_digit (n := n % 10) (by omega) (by omega)]
  unfold Lib.itoa; rw [if_neg (by omega), if_neg (by omega), dec_big (by omega), show (n / 10).toNat = n.toNat / 10 by omega, show (n % 10).toNat = n.toNat % 10 by omega]
theorem itoa_neg {n : Int} (h : n < 0) : Lib.itoa n = 45 :: Lib.itoa (-n) := by
  unfold Lib.itoa; rw [if_pos h, if_neg (by omega), show n.natAbs = (-n).toNat by omega]
theorem nDig_le (u : Nat) (h : u < 10000000000000000000) : Lib.nDigits u ≤ 19 := by
  refine Nat.le_of_not_lt fun h' => ?_
  have hp : ∀ k u, k < Lib.nDigits u → 1 ≤ k → 10 ^ k ≤ u := by
    intro k
    induction k with
    | zero => intro u _ h; omega
    | succ k ih =>
      intro u hu _
      by_cases h10 : u < 10
      · rw [Lib.nDigits_small h10] at hu; omega
      · rw [Lib.nDigits_big h10] at hu
        by_cases hk : k = 0
        · subst hk; omega
        · have := ih (u / 10) (by omega) (by omega)
          rw [Nat.pow_succ]; omega
  have := hp 19 u h' (by omega)
  simp at this
  omega
theorem itoa_length (n : Int) (h : Mid n) : (Lib.itoa n).length ≤ 20 := by
  unfold Mid at h
  unfold Lib.itoa
  split
  · rw [List.length_cons, Lib.decDigits_length]; have := nDig_le n.natAbs (by omega); omega
  · rw [Lib.decDigits_length]; have := nDig_le n.toNat (by omega); omega
theorem pnt_length (x : UInt8) (p : Pl.Pt) (y : UInt8) (h1 : Mid p.x) (h2 : Mid p.y) : (Pl.pnt x p y).length ≤ 42 := by
  have := itoa_length p.x h1
  have := itoa_length p.y h2
  unfold Pl.pnt
  simp only [List.length_cons, List.length_append]; omega

/-- strconv.Itoa in the walks' frame. -/
theorem itoa_any (n : Int) (w : World) (he : Env w) (hn : Mid n) :
    Calls Tryd.prog 14 #[.int .i64 n] w fun e w' => e = .returned (.string ⟨(Lib.itoa n).toArray⟩) ∧ Kp w w' none := by
  unfold Mid at hn
  refine (Tryd.strconv_Itoa n (by omega) (by omega) w he.tab).mono ?_
  rintro e w' ⟨rfl, k, os, rfl⟩
  exact ⟨rfl, Kp.of_below (Lib.below_grow _ w (Nat.le_refl _) k os)⟩

theorem digit_conv (d : Int) (h0 : 0 ≤ d) (h1 : d < 10) (w : World) : (convert 46 9 (.slice (some ⟨w.heap.size, 0, none⟩) 1 1)).run Tryd.prog (w.alloc (.cells #[.int .u8 (48 + d)] 5)) = .ok (.string ⟨(Lib.itoa d).toArray⟩) (w.alloc (.cells #[.int .u8 (48 + d)] 5)) := by
  have h := run_convert_bytes_back (P := Tryd.prog) (w.alloc (.cells #[.int .u8 (48 + d)] 5)) 46 9 5 ⟨w.heap.size, 0, none⟩ 1 [UInt8.ofNat (48 + d.toNat)] Tryd.underlying46 Tryd.underlying5 Tryd.underlying9 (fun j hj => by
    have : j = 0 := by simpa using hj
    subst this
    show (w.alloc _).cell? ⟨w.heap.size, 0 + 0, none⟩ = _
    simp only [World.cell?, heap_alloc_new]
    have e := digit_toNat (d := d.toNat) (by omega)
    simp only [List.getElem_cons_zero, e]
    simp; omega)
  rw [itoa_digit h0 h1]; exact h

set_option maxHeartbeats 8000000 in
set_option maxRecDepth 100000 in
theorem point_any (x y : UInt8) (px py : Int) (w : World) (he : Env w) (hx : Mid px) (hy : Mid py) :
    Calls Tryd.prog 30 #[.string ⟨#[x]⟩, .agg #[.int .i64 px, .int .i64 py], .string ⟨#[y]⟩] w fun e w' => e = .returned (.string ⟨(Pl.pnt x ⟨px, py⟩ y).toArray⟩) ∧ Kp w w' none := by
  have HE := Lib.hid he
  have HX := Lib.hid hx
  have HY := Lib.hid hy
  clear he hx hy
  have HBX := Lib.hid (heap_alloc_new w (Obj.cells #[.int .i64 px, .int .i64 py] 29))
  go_enter Tryd.func30, Tryd.ntmps30
  go_wp2_with fail
  obtain ⟨q1, hq1⟩ : ∃ q : List UInt8, [x] ++ Lib.itoa px = q := ⟨_, rfl⟩
  have HBq1 : Hid ((⟨#[x]⟩ : ByteArray) ++ (⟨(Lib.itoa px).toArray⟩ : ByteArray) = ⟨(q1).toArray⟩) := Lib.hid (by rw [← hq1]; exact ByteArray.mk_append_mk _ _)
  have hlb1 : (Lib.itoa px).length ≤ 20 := itoa_length px HX.out
  have hbq1 : q1.length ≤ 21 := by rw [← hq1, List.length_append]; (try simp only [List.length_cons, List.length_nil]); omega
  have HGq1 : Hid ((9223372036854775807 < 1 + (Lib.itoa px).length) = False) := Lib.hid (eq_false (by (try simp only [List.length_cons, List.length_nil]); omega))
  have Hq1 := Lib.hid hq1
  clear hq1 hlb1
  obtain ⟨q2, hq2⟩ : ∃ q : List UInt8, q1 ++ [y] = q := ⟨_, rfl⟩
  have HBq2 : Hid ((⟨(q1).toArray⟩ : ByteArray) ++ (⟨#[y]⟩ : ByteArray) = ⟨(q2).toArray⟩) := Lib.hid (by rw [← hq2]; exact ByteArray.mk_append_mk _ _)
  have hbq2 : q2.length ≤ 22 := by rw [← hq2, List.length_append]; (try simp only [List.length_cons, List.length_nil]); omega
  have HGq2 : Hid ((9223372036854775807 < (q1).length + 1) = False) := Lib.hid (eq_false (by (try simp only [List.length_cons, List.length_nil]); omega))
  have Hq2 := Lib.hid hq2
  clear hq2 
  obtain ⟨q3, hq3⟩ : ∃ q : List UInt8, q2 ++ Lib.itoa py = q := ⟨_, rfl⟩
  have HBq3 : Hid ((⟨(q2).toArray⟩ : ByteArray) ++ (⟨(Lib.itoa py).toArray⟩ : ByteArray) = ⟨(q3).toArray⟩) := Lib.hid (by rw [← hq3]; exact ByteArray.mk_append_mk _ _)
  have hlb3 : (Lib.itoa py).length ≤ 20 := itoa_length py HY.out
  have hbq3 : q3.length ≤ 42 := by rw [← hq3, List.length_append]; (try simp only [List.length_cons, List.length_nil]); omega
  have HGq3 : Hid ((9223372036854775807 < (q2).length + (Lib.itoa py).length) = False) := Lib.hid (eq_false (by (try simp only [List.length_cons, List.length_nil]); omega))
  have Hq3 := Lib.hid hq3
  clear hq3 hlb3
  clear hbq1 hbq2 hbq3
  refine wp_region_held_drew (S := fun w' => w'.cell? ⟨w.heap.size, 0, none⟩ = some (.int .i64 px) ∧ w'.cell? ⟨w.heap.size, 1, none⟩ = some (.int .i64 py) ∧ Hid (Kp (w.alloc (Obj.cells #[.int .i64 px, .int .i64 py] 29)) w' none)) (by kernel_rfl) ?_ (fun hHeld => ?_)
  · exact ⟨ckr HBX.out (Kp.refl _ none).drew (by simp) 0 rfl, ckr HBX.out (Kp.refl _ none).drew (by simp) 1 rfl, Lib.hid (Kp.refl _ none).drew⟩
  refine tkH 0 rfl ?_
  try simp only [Act.put, sm]
  refine tkH 1 rfl ?_
  try simp only [Act.put, sm]
  refine tkH 2 rfl ?_
  try simp only [Act.put, sm]
  refine tkH 5 rfl ?_
  try simp only [Act.put, sm]
  refine tkH 7 rfl ?_
  try simp only [Act.put, sm]
  refine tkH 8 rfl ?_
  try simp only [Act.put, sm]
  refine wpAnyH_ready (rs := [3]) (by kernel_rfl) (by simp) ?_
  refine AllReadyH.cons (o := _) rfl (fun K hK => ?_) AllReadyH.nil
  have gK := hHeld.2.2
  go_simp
  refine (itoa_any px _ (HE.out.kp0 (((Kp.refl w none).alloc _).trans gK.out)) HX.out).mono ?_
  rintro e w21 ⟨rfl, kk⟩
  try go_wp2_with fail
  refine hK.out _ _ ?_ (fun hHeld2 => ?_)
  · exact ⟨ckr HBX.out (gK.out.trans kk) (by simp) 0 rfl, ckr HBX.out (gK.out.trans kk) (by simp) 1 rfl, Lib.hid (gK.out.trans kk)⟩
  clear hK K hHeld gK kk
  have hHeld := hHeld2
  clear hHeld2
  try simp only [Act.put, sm]
  have hq1 := HBq1.out
  have g1 := HGq1.out
  refine tkH 4 rfl ?_
  try simp only [Act.put, sm]
  clear g1 hq1
  have hq2 := HBq2.out
  have g2 := HGq2.out
  refine tkH 6 rfl ?_
  try simp only [Act.put, sm]
  clear g2 hq2
  refine wpAnyH_ready (rs := [9]) (by kernel_rfl) (by simp) ?_
  refine AllReadyH.cons (o := _) rfl (fun K hK => ?_) AllReadyH.nil
  have gK := hHeld.2.2
  go_simp
  refine (itoa_any py _ (HE.out.kp0 (((Kp.refl w none).alloc _).trans gK.out)) HY.out).mono ?_
  rintro e w22 ⟨rfl, kk⟩
  try go_wp2_with fail
  refine hK.out _ _ ?_ (fun hHeld2 => ?_)
  · exact ⟨ckr HBX.out (gK.out.trans kk) (by simp) 0 rfl, ckr HBX.out (gK.out.trans kk) (by simp) 1 rfl, Lib.hid (gK.out.trans kk)⟩
  clear hK K hHeld gK kk
  have hHeld := hHeld2
  clear hHeld2
  try simp only [Act.put, sm]
  have hq3 := HBq3.out
  have g3 := HGq3.out
  refine tkH 10 rfl ?_
  try simp only [Act.put, sm]
  clear g3 hq3
  refine wpAnyH_ready (rs := [11]) (by kernel_rfl) (by simp) ?_
  refine AllReadyH.cons (o := _) rfl (fun K hK => ?_) AllReadyH.nil
  have gK := hHeld.2.2
  go_simp
  try go_wp2_with fail
  refine hK.out _ _ ?_ (fun hHeld2 => ?_)
  · exact ⟨ckr HBX.out gK.out (by simp) 0 rfl, ckr HBX.out gK.out (by simp) 1 rfl, Lib.hid gK.out⟩
  have KZ := Lib.hid gK.out
  clear hK K hHeld hHeld2 gK
  try simp only [Act.put, sm]
  refine wpAnyH_done (by kernel_rfl) ?_ _
  have HF : Hid (q3 = Pl.pnt x ⟨px, py⟩ y) := Lib.hid (by rw [← Hq3.out, ← Hq2.out, ← Hq1.out]; unfold Pl.pnt; simp)
  go_wp2_with fail
  go_ret
  exact ⟨ret_str (by rw [HF.out]), ((Kp.refl w none).alloc _).trans KZ.out⟩

end Go.Proofs.YtggplbenliaodaaDoor
