/- The program's file of drawings. Condition: at most 10^6 drawings. -/
import Derived.Test.YtggplbenliaodaaDoorMp
namespace Go.Proofs.YtggplbenliaodaaDoor
open Go.RowKit Go.Lib Go.Maps

def WriteIs (w : World) (E : Ending) (w' : World) (r : List UInt8 × Int) : Prop := E = .returned (.tuple #[.string ⟨r.1.toArray⟩, .int .i64 r.2]) ∧ Kp w w' none
theorem wr_is {w w' : World} {t : List UInt8} {e : Int} {r : List UInt8 × Int} (hr : r = (t, e)) (k : Kp w w' none) : WriteIs w (.returned (.tuple #[.string ⟨t.toArray⟩, .int .i64 e])) w' r := ⟨by rw [hr], k⟩
theorem kp_below {W w w' : World} (h : Kp W w none) (k : Below W.heap.size w w') : Kp W w' none := Kp.of_below (h.below.trans k)
theorem write_bad {ds : List Pl.Dr} (h : Pl.firstBad ds ≠ 0) : Pl.write ds = ([], Pl.firstBad ds) := by unfold Pl.write; rw [if_pos h]
theorem write_many {ds : List Pl.Dr} (h : Pl.firstBad ds = 0) (h2 : 990 < (Pl.radii ds).length) : Pl.write ds = ([], 2) := by unfold Pl.write; rw [if_neg (by rw [h]; simp), if_pos h2]
theorem write_long {ds : List Pl.Dr} (h : Pl.firstBad ds = 0) (h3 : 262144 < (Pl.fileT ds).length) : Pl.write ds = ([], 2) := by unfold Pl.write; rw [if_neg (by rw [h]; simp)]; by_cases h2 : 990 < (Pl.radii ds).length; rw [if_pos h2]; rw [if_neg h2, if_pos h3]
theorem write_ok {ds : List Pl.Dr} (h : Pl.firstBad ds = 0) (h2 : ¬ 990 < (Pl.radii ds).length) (h3 : ¬ 262144 < (Pl.fileT ds).length) : Pl.write ds = (Pl.fileT ds, 0) := by unfold Pl.write; rw [if_neg (by rw [h]; simp), if_neg h2, if_neg h3]
theorem keys_flat (rs : List Int) : rs.map encZ = rs.flatMap intVal := by
  induction rs with
  | nil => rfl
  | cons x rs ih => rw [List.map_cons, List.flatMap_cons, ih]; rfl
/-- Where the sorted keys lie, apart from the writer and its map. -/
def KeysAt (b m : Nat) (V : World) (ao : Option Addr) (cap : Nat) (rs : List Int) : Prop := ∀ i, (h : i < rs.length) → ∃ g off, ao = some ⟨g, off, none⟩ ∧ rs.length ≤ cap ∧ V.cell? ⟨g, off + i, none⟩ = some (.int .i64 rs[i]) ∧ Off b V g ∧ g ≠ m
theorem KeysAt.kw {b m : Nat} {V V' : World} {ao : Option Addr} {cap : Nat} {rs : List Int} (h : KeysAt b m V ao cap rs) (k : Kw b V V') : KeysAt b m V' ao cap rs := fun i hi => by
  obtain ⟨g, off, e, hc, h1, h2, h3⟩ := h i hi
  exact ⟨g, off, e, hc, (World.cell?_of_block (h2.same k)).trans h1, h2.kw k, h3⟩
theorem KeysAt.own {b m : Nat} {V V' : World} {ao : Option Addr} {cap : Nat} {rs : List Int} (h : KeysAt b m V ao cap rs) (k : Kp V V' (some m)) (hb : b < V.heap.size) (hne : m ≠ b) : KeysAt b m V' ao cap rs := fun i hi => by
  obtain ⟨g, off, e, hc, h1, h2, h3⟩ := h i hi
  exact ⟨g, off, e, hc, (World.cell?_of_block (k.block g h2.1 (fun e => h3 (by injection e)))).trans h1, h2.own k hb hne, h3⟩
/-- The apertures that were defined. -/
def Rel2 (rs : List Int) (w : World) (m b : Nat) (ao : Option Addr) (cap : Nat) (i : Value) (wr : World) : Prop :=
  ∃ k : Nat, k ≤ rs.length ∧ i = .int .i64 k ∧ Wr w.heap.size b (Pl.apsTo rs k) m 0 false wr ∧ Off b wr m ∧ Kp w wr none ∧ KeysAt b m wr ao cap rs ∧ ∃ (D : DataW Unit) (nn : Nat), nn ≤ 1000000 + k ∧ MapAt wr m nn D ∧ Apts D rs k
/-- The drawings that were written. -/
def Rel3 (rs : List Int) (ds : List Pl.Dr) (w : World) (m b : Nat) (i : Value) (wr : World) : Prop :=
  ∃ k : Nat, k ≤ ds.length ∧ i = .int .i64 k ∧ Wr w.heap.size b (Pl.runTo rs ds k).t m ((Pl.runTo rs ds k).ap : Nat) (Pl.runTo rs ds k).c wr ∧ (Pl.runTo rs ds k).t.length ≤ 262144 ∧ Off b wr m ∧ Kp w wr none ∧ ∃ (D : DataW Unit) (nn : Nat), MapAt wr m nn D ∧ Apts D rs rs.length
/-- The drawings that were looked at. -/
def Rel1 (ds : List Pl.Dr) (w : World) (m b : Nat) (i : Value) (wr : World) : Prop :=
  ∃ k : Nat, k ≤ ds.length ∧ i = .int .i64 k ∧ Pl.firstBad ds = Pl.firstBad (ds.drop k) ∧ Wr w.heap.size b [] m 0 false wr ∧ Off b wr m ∧ Kp w wr none ∧ ∃ (D : DataW Unit) (nn : Nat), nn ≤ k ∧ MapAt wr m nn D ∧ Keys D (Pl.radii (ds.take k))

set_option maxHeartbeats 8000000 in
set_option maxRecDepth 100000 in
theorem write_any (ds : List Pl.Dr) (n : Nat) (hn : ds.length = n) (ao : Option Addr) (cap : Nat) (w : World) (he : Env w) (hds : LiesDr w ao cap ds) (hl : n ≤ 1000000) :
    Calls Tryd.prog 6 #[.slice ao n cap] w fun E w' => WriteIs w E w' (Pl.write ds) := by
  have HE := Lib.hid he
  have FD := Lib.hid hds
  have HN := Lib.hid hn
  have hW1 : 1 ≤ w.heap.size := he.big
  have HENV : Hid (∀ V, Kp w V none → Env V) := Lib.hid fun V k => he.kp0 k
  obtain ⟨fin, hfin⟩ : ∃ f, Pl.write ds = f := ⟨_, rfl⟩
  have HFIN := Lib.hid hfin
  rw [hfin]
  clear he hds hn hfin
  have hn0 : (0 : Int) ≤ (n : Int) := Int.natCast_nonneg _
  have hmm := @run_makeMap Tryd.prog
  have HX : Hid (Rel1 ds w w.heap.size (w.heap.size + 1) (.int .i64 0) ((w.alloc (.map #[] 0)).alloc (Obj.cells #[.pointer none, .slice none 0 0, .map (some w.heap.size), .int .i64 0, .bool false] 50))) := Lib.hid (by
    have hb : ((w.alloc (.map #[] 0)).alloc (Obj.cells #[.pointer none, .slice none 0 0, .map (some w.heap.size), .int .i64 0, .bool false] 50)).heap[w.heap.size + 1]? = some (Obj.cells #[.pointer none, .slice none 0 0, .map (some w.heap.size), .int .i64 0, .bool false] 50) := by
      have := heap_alloc_new (w.alloc (.map #[] 0)) (Obj.cells #[.pointer none, .slice none 0 0, .map (some w.heap.size), .int .i64 0, .bool false] 50)
      simpa using this
    refine ⟨0, Nat.zero_le _, rfl, rfl, ⟨by omega, .pointer none, .slice none 0 0, .inl rfl, hb, ⟨rfl, .inl ⟨rfl, rfl⟩⟩, by simp [Value.ownBlock]⟩, ⟨by simp; omega, by omega, ?_⟩, ((Kp.refl w none).alloc _).alloc _, .map [], 0, Nat.le_refl _, ?_, keys_nil⟩
    · unfold bufOf; rw [Lib.cell_of_heap hb]; simp [Value.ownBlock]
    · exact (World.ownsMap_made w Tryd.prog 3 _).kept ((Kp.refl _ none).alloc _) (by simp))
  go_enter Tryd.func6, Tryd.ntmps6
  go_wp2_with fail
  generalize (w.alloc (.map #[] 0)).alloc (Obj.cells #[.pointer none, .slice none 0 0, .map (some w.heap.size), .int .i64 0, .bool false] 50) = X at *
  go_loopw [17] (fun i wr => Rel1 ds w w.heap.size (w.heap.size + 1) i wr) (fun i _ => n - (intOf i).toNat)
  case atStart => exact HX.out
  case round =>
    obtain ⟨k, hk, rfl, hfb, hwr, hof, hkp, D, nn, hnn, hmp, hky⟩ := hrel
    have HFB := Lib.hid hfb
    have HW := Lib.hid hwr
    have HO := Lib.hid hof
    have HK := Lib.hid hkp
    have HM := Lib.hid hmp
    have HY := Lib.hid hky
    clear hfb hwr hof hkp hmp hky HX
    have hk0 : (0 : Int) ≤ (k : Int) := Int.natCast_nonneg _
    by_cases hlt : k < n
    · have hk1 : (k : Int) < (n : Int) := by omega
      have hlt2 : k < ds.length := by rw [HN.out]; exact hlt
      obtain ⟨bo, off, ea, ec, rfl, hcap, hbo, c0, c1, c2, c3, hee⟩ := FD.out k hlt2
      have hcap2 : n ≤ cap := by have := HN.out; omega
      obtain ⟨d, hd⟩ : ∃ d, ds[k] = d := ⟨_, rfl⟩
      rw [hd] at c0 c1 c2 c3 hee
      have e0 : wr.cell? ⟨bo, off + k * 4, none⟩ = _ := (HK.out.below.cell (p := ⟨bo, off + k * 4, none⟩) hbo).trans c0
      have e1 : wr.cell? ⟨bo, off + k * 4 + 1, none⟩ = _ := (HK.out.below.cell (p := ⟨bo, off + k * 4 + 1, none⟩) hbo).trans c1
      have e2 : wr.cell? ⟨bo, off + k * 4 + 2, none⟩ = _ := (HK.out.below.cell (p := ⟨bo, off + k * 4 + 2, none⟩) hbo).trans c2
      have e3 : wr.cell? ⟨bo, off + k * 4 + 3, none⟩ = _ := (HK.out.below.cell (p := ⟨bo, off + k * 4 + 3, none⟩) hbo).trans c3
      have HEE : Hid (∀ V, Kp w V none → LiesAt 7 edC V ea ec d.s.es) := Lib.hid fun V kv => hee.keep kv
      have HDR : Hid (Pl.firstBad ds = if Pl.chk d.s = 0 then Pl.firstBad (ds.drop (k + 1)) else Pl.chk d.s) := Lib.hid (by rw [HFB.out, Pl.firstBad_drop ds k hlt2, hd])
      have HST : Hid (Pl.radii (ds.take (k + 1)) = Pl.addR (Pl.radii (ds.take k)) d) := Lib.hid (by rw [Pl.radii_step ds k hlt2, hd])
      clear c0 c1 c2 c3 hee hcap HFB hd
      obtain ⟨sn, hsn⟩ : ∃ sn, d.s.es.length = sn := ⟨_, rfl⟩
      rw [hsn] at e1
      have HCH : Hid (∀ V, Kp w V none → Calls Tryd.prog 10 #[.agg #[.int .i64 d.s.k, .slice ea sn ec, .int .i64 d.s.r]] V fun E w' => E = .returned (.int .i64 (Pl.chk d.s)) ∧ Kp V w' none) := Lib.hid fun V kv => scheck_any d.s sn hsn ea ec V (HEE.out V kv)
      have HRR : Hid (Pl.chk d.s = 0 → 0 ≤ d.s.r ∧ d.s.r ≤ 4194304) := Lib.hid fun h => ⟨(chk_zero h).2.2.2.2.2.2.2.2.1, (chk_zero h).2.2.2.2.2.2.2.2.2⟩
      obtain ⟨⟨dk, des, dr⟩, dc⟩ := d
      dsimp only at e0 e1 e2 e3 HDR HCH HRR
      obtain ⟨er, her⟩ : ∃ er, Pl.chk ⟨dk, des, dr⟩ = er := ⟨_, rfl⟩
      rw [her] at HDR HCH HRR
      have HBD := Lib.hid (heap_alloc_new wr (Obj.cells #[.int .i64 dk, .slice ea sn ec, .int .i64 dr, .bool dc] 31))
      have KB : Hid (Kp wr (wr.alloc (Obj.cells #[.int .i64 dk, .slice ea sn ec, .int .i64 dr, .bool dc] 31)) none) := Lib.hid ((Kp.refl wr none).alloc _)
      clear her hsn
      by_cases hz : er = 0
      · have hz1 : (er == 0) = true := by simpa using hz
        have HD2 : Hid (Pl.firstBad ds = Pl.firstBad (ds.drop (k + 1))) := Lib.hid (by rw [HDR.out, if_pos hz])
        have HR2 := Lib.hid (HRR.out hz)
        clear hz HDR HRR
        go_wp2_with fail
        refine (HCH.out _ (HK.out.trans KB.out)).mono ?_
        rintro E w2 ⟨rfl, k2⟩
        have K2 := Lib.hid (KB.out.trans k2)
        have z0 : w2.cell? ⟨wr.heap.size, 0, none⟩ = some (.int .i64 dk) := ckr HBD.out k2 (by simp) 0 rfl
        have z2 : w2.cell? ⟨wr.heap.size, 2, none⟩ = some (.int .i64 dr) := ckr HBD.out k2 (by simp) 2 rfl
        have HW2 := Lib.hid (HW.out.kp K2.out)
        have HO2 := Lib.hid (HO.out.kp K2.out HW.out.lt)
        have HK2 := Lib.hid (HK.out.trans K2.out)
        have HM2 : Hid (MapAt w2 w.heap.size nn D) := Lib.hid (HM.out.keep (K2.out.block _ HM.out.lt (by simp)))
        obtain ⟨x2, _, _, _, _⟩ := HW2.out.cells
        have HMLT : Hid (w.heap.size < wr.heap.size) := Lib.hid HM.out.lt
        clear k2 HW HO HM e0 e1 e2 e3
        by_cases hdk : dk = 1
        · have hd1 : (dk == 1) = true := by simpa using hdk
          have HKY : Hid (Keys (D.put (.int .i64 dr) (.lit (.int .i64 0))) (Pl.radii (ds.take (k + 1)))) := Lib.hid (by rw [HST.out]; exact HY.out.addR HM2.out.tidy ⟨⟨dk, des, dr⟩, dc⟩ hdk (Pl.radii_sorted _) _)
          clear hdk
          obtain ⟨w3, hrun, hown3, hg3⟩ := World.ownsMap.update (HM2.out.keep (w' := w2.drew) rfl) law3 Tryd.underlying44 (show nn < maxLen by unfold maxLen; omega) (keyOf_int_mk Tryd.underlying3 (wf64 (n := dr) (by have := HR2.out; omega) (by have := HR2.out; omega))) (plainElem_int (H := Unit) Tryd.underlying3 (a := 0) (wf64 (by decide) (by decide)))
          have K3 : Hid (Kp w2 w3 (some w.heap.size)) := Lib.hid (((Kp.refl w2 (some w.heap.size)).drew).trans hg3)
          have HRE : Hid (Rel1 ds w w.heap.size (w.heap.size + 1) (.int .i64 (k + 1)) w3) := Lib.hid ⟨k + 1, hlt2, by go_num, HD2.out, HW2.out.own K3.out HO2.out, HO2.out.own K3.out HW2.out.lt HO2.out.2.1, HK2.out.of_own K3.out (Nat.le_refl _), _, nn + 1, by omega, hown3, HKY.out⟩
          clear hown3 hg3
          go_wp2_with fail
          have hS3 : w3.cell? ⟨w.heap.size + 1, 2, none⟩ = some (.map (some w.heap.size)) ∧ w3.cell? ⟨wr.heap.size, 2, none⟩ = some (.int .i64 dr) := ⟨(HW2.out.own K3.out HO2.out).cells.1, (K3.out.cell_far ⟨wr.heap.size, 2, none⟩ (World.block_lt_of_cell? _ _ z2) (by have := HK.out.size; have := HMLT.out; simp; omega)).trans z2⟩
          refine wp_region_held_drew (S := fun V => V.cell? ⟨w.heap.size + 1, 2, none⟩ = some (.map (some w.heap.size)) ∧ V.cell? ⟨wr.heap.size, 2, none⟩ = some (.int .i64 dr)) (by kernel_rfl) ⟨x2, z2⟩ (fun hHeld => ?_)
          refine tkH 0 rfl ?_ (by intro w hSw; obtain ⟨g1, g2⟩ := hSw; go_simp <;> with_reducible rfl)
          try simp only [Act.put, sm]
          refine tkH 1 rfl ?_ (by intro w hSw; obtain ⟨g1, g2⟩ := hSw; go_simp <;> with_reducible rfl)
          try simp only [Act.put, sm]
          refine tkH 2 rfl ?_ (by intro w hSw; obtain ⟨g1, g2⟩ := hSw; go_simp <;> with_reducible rfl)
          try simp only [Act.put, sm]
          refine tkH 3 rfl ?_ (by intro w hSw; obtain ⟨g1, g2⟩ := hSw; go_simp <;> with_reducible rfl)
          try simp only [Act.put, sm]
          refine tkH 4 rfl ?_ (by intro w hSw; obtain ⟨g1, g2⟩ := hSw; go_simp <;> with_reducible rfl)
          try simp only [Act.put, sm]
          refine tkH 5 rfl ?_ (by intro w hSw; obtain ⟨g1, g2⟩ := hSw; go_simp <;> with_reducible rfl)
          try simp only [Act.put, sm]
          refine tkH 6 rfl ?_ (by intro w hSw; obtain ⟨g1, g2⟩ := hSw; go_simp <;> with_reducible rfl)
          try simp only [Act.put, sm]
          refine wpAnyH_ready (rs := [7]) (by kernel_rfl) (by simp) ?_
          refine AllReadyH.cons (o := _) rfl (fun K hK => ?_) AllReadyH.nil
          clear hHeld
          go_simp
          try go_wp2_with fail
          refine hK.out _ _ hS3 (fun hHeld => ?_)
          clear hK K hHeld hrun hS3
          refine wpAnyH_done (by kernel_rfl) ?_ _
          go_wp2_with fail
          first | exact ⟨HRE.out, by simp [intOf]; omega⟩ | (go_roundw; all_goals first | exact HRE.out | (simp [intOf]; omega))
        · have hd1 : (dk == 1) = false := by simpa using hdk
          have HRE : Hid (Rel1 ds w w.heap.size (w.heap.size + 1) (.int .i64 (k + 1)) w2) := Lib.hid ⟨k + 1, hlt2, by go_num, HD2.out, HW2.out, HO2.out, HK2.out, D, nn, by omega, HM2.out, by rw [HST.out]; unfold Pl.addR; rw [if_neg hdk]; exact HY.out⟩
          clear hdk
          go_wp2_with fail
          first | exact ⟨HRE.out, by simp [intOf]; omega⟩ | (go_roundw; all_goals first | exact HRE.out | (simp [intOf]; omega))
      · have hz1 : (er == 0) = false := by simpa using hz
        have HFE : Hid (fin = ([], er)) := Lib.hid (by have h1 := HDR.out; rw [if_neg hz] at h1; rw [← HFIN.out, write_bad (by rw [h1]; exact hz), h1])
        clear hz HDR HRR
        go_wp2_with fail
        refine (HCH.out _ (HK.out.trans KB.out)).mono ?_
        rintro E w2 ⟨rfl, k2⟩
        have HK2 := Lib.hid (HK.out.trans (KB.out.trans k2))
        clear k2
        go_wp2_with fail
        go_ret2
        exact wr_is (t := []) HFE.out HK2.out
    · have hk1 : ¬ (k : Int) < (n : Int) := by omega
      have HFZ : Hid (Pl.firstBad ds = 0) := Lib.hid (by rw [HFB.out, Pl.firstBad_end ds k (by rw [HN.out]; omega)])
      have HKY : Hid (Keys D (Pl.radii ds)) := Lib.hid (by have := HY.out; rw [List.take_of_length_le (by rw [HN.out]; omega)] at this; exact this)
      have HNN : Hid (nn ≤ 1000000) := Lib.hid (by have := HN.out; omega)
      obtain ⟨rs, hrs⟩ : ∃ rs, Pl.radii ds = rs := ⟨_, rfl⟩
      have HRS := Lib.hid hrs
      have hrl : rs.length ≤ 1000000 := by rw [← hrs]; exact Nat.le_trans (Pl.radii_length ds) (by rw [HN.out]; exact hl)
      have HSO : Hid (rs.Pairwise (· < ·)) := Lib.hid (by rw [← hrs]; exact Pl.radii_sorted ds)
      have HRG : Hid (∀ r ∈ rs, 0 ≤ r ∧ r ≤ 4194304) := Lib.hid (by rw [← hrs]; exact radii_range HFZ.out)
      rw [hrs] at HKY
      have hsz := HKY.out.2
      obtain ⟨x2, _, _, _, _⟩ := HW.out.cells
      have HLEN : Hid ((Maps.size D : Int) = (rs.length : Int)) := Lib.hid (by rw [hsz])
      clear HFB HY hrs hsz
      have hlen0 : (0 : Int) ≤ (rs.length : Int) := Int.natCast_nonneg _
      by_cases hmany : 990 < rs.length
      · have hm1 : (990 : Int) < (rs.length : Int) := by omega
        have HFE : Hid (fin = ([], 2)) := Lib.hid (by rw [← HFIN.out, write_many HFZ.out (by rw [HRS.out]; exact hmany)])
        go_wp2_with (first | (at_len; refine wpList_len_own _ rfl _ 44 rfl 3 3 Tryd.underlying44 _ w.heap.size nn D rfl HM.out ?_; rw [HLEN.out]) | fail)
        go_ret2
        exact wr_is (t := []) HFE.out HK.out
      · have hm1 : ¬ (990 : Int) < (rs.length : Int) := by omega
        have HFM : Hid (¬ 262144 < (Pl.fileT ds).length → fin = (Pl.fileT ds, 0)) := Lib.hid fun h => by rw [← HFIN.out, write_ok HFZ.out (by rw [HRS.out]; exact hmany) h]
        have HFL : Hid (262144 < (Pl.fileT ds).length → fin = ([], 2)) := Lib.hid fun h => by rw [← HFIN.out, write_long HFZ.out h]
        have HSL := Lib.hid (start_length rs (by omega) HRG.out)
        clear HFIN
        go_wp2_with (first | (at_len; refine wpList_len_own _ rfl _ 44 rfl 3 3 Tryd.underlying44 _ w.heap.size nn D rfl HM.out ?_; rw [HLEN.out]) | fail)
        have HD0 : Hid (Apts D rs 0) := Lib.hid fun i _ h => by omega
        refine (cmd_at HW.out [[71, 48, 52, 32, 101, 116, 99, 104, 97, 110, 116, 42, 10, 37, 70, 83, 76, 65, 88, 57, 48, 89, 57, 48, 42, 37, 10, 37, 77, 79, 77, 77, 42, 37]] _ _ _ rfl rfl rfl (by simp) Pl.head rfl (by decide) HK.out.size).mono ?_
        rintro E w3 ⟨rfl, h3, k3⟩
        have HW3 : Hid (Wr w.heap.size (w.heap.size + 1) Pl.head w.heap.size 0 false w3) := Lib.hid h3
        have HO3 := Lib.hid (HO.out.kw k3)
        have HK3 := Lib.hid (HW.out.kpw HK.out k3)
        have HM3 : Hid (MapAt w3 w.heap.size nn D) := Lib.hid (HM.out.keep (HO.out.same k3))
        obtain ⟨x3, _, _, _, _⟩ := h3.cells
        clear h3 k3 HW HO HM x2
        go_wp2_with fail
        refine (callsIn_wide.1 (Tryd.maps_Keys_25 (some w.heap.size) _)).mono ?_
        rintro E w4 ⟨rfl, rfl⟩
        go_wp2_with fail
        refine (callsIn_wide.1 (Tryd.slices_Sorted_keys_24 w.heap.size nn D _ w3 HM3.out (by have := HKY.out.2; unfold maxLen; omega) (by have := HKY.out.2; omega))).mono ?_
        rintro E w5 ⟨v, ss, rfl, hperm, hrow, _, hbel⟩
        rw [keys_sorted HM3.out HKY.out HSO.out hperm] at hrow
        have hssl : ss.length = rs.length := by
          have h1 := congrArg List.length (keys_sorted HM3.out HKY.out HSO.out hperm)
          rw [List.length_mergeSort] at h1; exact h1
        rw [hssl, keys_flat] at hrow
        have k5 : Kp w3 w5 none := ((Kp.refl w3 none).alloc _).trans (Kp.of_below hbel)
        have HW5 := Lib.hid (HW3.out.kp k5)
        have HO5 := Lib.hid (HO3.out.kp k5 HW3.out.lt)
        have HK5 := Lib.hid (HK3.out.trans k5)
        have HM5 : Hid (MapAt w5 w.heap.size nn D) := Lib.hid (HM3.out.keep (k5.block _ HM3.out.lt (by simp)))
        obtain ⟨ak, ck, hv, hka⟩ : ∃ ak ck, v = .slice ak rs.length ck ∧ KeysAt (w.heap.size + 1) w.heap.size w5 ak ck rs := by
          have hform := isList_own (m := 1) (f := intVal) (fun _ => rfl) (e := 3) (v := v) (xs := rs) (w := w5) hrow
          obtain ⟨ak, ck, hv, hla⟩ := hform.form
          refine ⟨ak, ck, hv, fun i hi => ?_⟩
          obtain ⟨g, off, e, hb, hc, hr⟩ := hla.int i hi
          have hgb : (w3.alloc (Obj.cells #[.map (some w.heap.size)] 44)).heap.size ≤ g := by
            rw [hv, e] at hrow
            exact (hrow.lt g rfl).1
          have hgs : w3.heap.size < g := by simp at hgb; omega
          have hb1 := HW3.out.lt
          have hb2 := HM3.out.lt
          refine ⟨g, off, e, hc, hr i hi, ⟨hb, by omega, fun e2 => ?_⟩, by omega⟩
          have hbf := HW5.out.buf e2
          rw [bufOf_eq (k5.block (w.heap.size + 1) hb1 (by simp))] at e2
          have := (HW3.out.buf e2).2
          omega
        subst hv
        have HR2 : Hid (Rel2 rs w w.heap.size (w.heap.size + 1) ak ck (.int .i64 0) w5) := Lib.hid ⟨0, Nat.zero_le _, rfl, HW5.out, HO5.out, HK5.out, hka, D, nn, by have := HNN.out; omega, HM5.out, HD0.out⟩
        clear hka hrow hperm hbel k5 hssl HW5 HO5 HK5 HM5 HW3 HO3 HK3 HM3 HD0 HKY HLEN HNN HK hnn
        go_wp2_with fail
        go_loopw [55] (fun i wr => Rel2 rs w w.heap.size (w.heap.size + 1) ak ck i wr) (fun i _ => rs.length - (intOf i).toNat)
        case atStart => exact HR2.out
        case round =>
          obtain ⟨k2, hk2, rfl, hwr, hof, hkp, hks, D2, n2, hn2, hmp, hap⟩ := hrel
          have HW := Lib.hid hwr
          have HO := Lib.hid hof
          have HK := Lib.hid hkp
          have HS := Lib.hid hks
          have HM := Lib.hid hmp
          have HA := Lib.hid hap
          obtain ⟨x2, _, _, _, _⟩ := hwr.cells
          clear hwr hof hkp hks hmp hap HR2
          have hq0 : (0 : Int) ≤ (k2 : Int) := Int.natCast_nonneg _
          by_cases hlt2 : k2 < rs.length
          · have hq1 : (k2 : Int) < (rs.length : Int) := by omega
            obtain ⟨g, off, rfl, hcap, hcg, hgo, hgm⟩ := HS.out k2 hlt2
            obtain ⟨r, hr⟩ : ∃ r, rs[k2] = r := ⟨_, rfl⟩
            rw [hr] at hcg
            have HRQ := Lib.hid (HRG.out r (by rw [← hr]; exact List.getElem_mem _))
            have HPUT : Hid (Apts (D2.put (.int .i64 r) (.lit (.int .i64 (10 + (k2 : Int))))) rs (k2 + 1)) := Lib.hid (by have := HA.out.put HM.out.tidy (HSO.out.imp (fun h => by omega)) hlt2; rw [hr] at this; simpa using this)
            have HAPS : Hid (Pl.apsTo rs (k2 + 1) = Pl.apsTo rs k2 ++ Pl.apT k2 r) := Lib.hid (by show Pl.apsTo rs k2 ++ _ = _; rw [List.getElem?_eq_getElem hlt2, hr])
            have HAPL := Lib.hid (apT_length k2 r (Nat.le_trans (Nat.le_of_lt hlt2) hrl) HRQ.out.1 HRQ.out.2)
            have hal := apsTo_length rs hrl HRG.out k2 hk2
            have HKEY := Lib.hid (keyOf_int_mk Tryd.underlying3 (wf64 (n := r) (by have := HRQ.out; omega) (by have := HRQ.out; omega)))
            have HVAL := Lib.hid (plainElem_int (H := Unit) (P := Tryd.prog) Tryd.underlying3 (a := 10 + (k2 : Int)) (wf64 (by omega) (by omega)))
            have HNM : Hid (n2 < maxLen) := Lib.hid (by unfold maxLen; omega)
            have HMI : Hid (Mid (10 + (k2 : Int)) ∧ Mid (2 * r)) := Lib.hid (by have := HRQ.out; unfold Mid; omega)
            have HLL : Hid ((Pl.apsTo rs k2).length + (Pl.apT k2 r).length ≤ 140737488355328) := Lib.hid (by have := HAPL.out; omega)
            have HN2 : Hid (n2 + 1 ≤ 1000000 + (k2 + 1)) := Lib.hid (by omega)
            have hw1 : wrap64 (10 + (k2 : Int)) = 10 + (k2 : Int) := wrap_mid (by omega) (by omega)
            clear hr hgo hgm hal
            go_wp2_with (first
              | (at_mapUpdate; refine wpList_mapUpdate_own _ rfl _ _ _ 44 rfl 3 3 law3 Tryd.underlying44 _ w.heap.size n2 D2 rfl HM.out HNM.out _ _ _ rfl rfl HKEY.out _ [] HVAL.out ?_; intro w6 hown6 hg6; have HM6 := Lib.hid hown6; have HG6 := Lib.hid hg6; clear hown6 hg6)
              | fail)
            have HW6 := Lib.hid (HW.out.own HG6.out HO.out)
            have HO6 := Lib.hid (HO.out.own HG6.out HW.out.lt HO.out.2.1)
            have HS6 := Lib.hid (HS.out.own HG6.out HW.out.lt HO.out.2.1)
            have HK6 := Lib.hid (HK.out.of_own HG6.out (Nat.le_refl _))
            refine (itoa_any (10 + (k2 : Int)) _ (HENV.out _ HK6.out) HMI.out.1).mono ?_
            rintro E w7 ⟨rfl, k7⟩
            have K7 := Lib.hid k7
            clear k7 hw1
            have hw2 : wrap64 (2 * r) = 2 * r := wrap_mid (by have := HRQ.out; omega) (by have := HRQ.out; omega)
            go_wp2_with fail
            refine (itoa_any (2 * r) _ (HENV.out _ (HK6.out.trans K7.out)) HMI.out.2).mono ?_
            rintro E w8 ⟨rfl, k8⟩
            have K8 := Lib.hid (K7.out.trans k8)
            have HW8 := Lib.hid (HW6.out.kp K8.out)
            clear k8 hw2
            go_wp2_with fail
            refine (cmd_at HW8.out [[37, 65, 68, 68], Lib.itoa (10 + (k2 : Int)), [67, 44], Lib.itoa (2 * r), [42, 37]] _ _ _ rfl rfl rfl (by simp) (Pl.apT k2 r) (by unfold Pl.apT; simp) HLL.out (HK6.out.trans K8.out).size).mono ?_
            rintro E w9 ⟨rfl, h9, k9⟩
            have K9 := Lib.hid ((Kw.of_kp K8.out HW6.out.lt).trans k9)
            have HREL : Hid (Rel2 rs w w.heap.size (w.heap.size + 1) (some ⟨g, off, none⟩) ck (.int .i64 (k2 + 1)) w9) := Lib.hid ⟨k2 + 1, hlt2, by go_num, by rw [HAPS.out]; exact h9, HO6.out.kw K9.out, HW6.out.kpw HK6.out K9.out, HS6.out.kw K9.out, _, n2 + 1, HN2.out, MapAt.keep HM6.out (HO6.out.same K9.out), HPUT.out⟩
            clear h9 k9
            go_wp2_with fail
            first | exact ⟨HREL.out, by simp [intOf]; omega⟩ | (go_roundw; all_goals first | exact HREL.out | (simp [intOf]; omega))
          · have hq1 : ¬ (k2 : Int) < (rs.length : Int) := by omega
            have hkr : k2 = rs.length := by omega
            have HA2 : Hid (Apts D2 rs rs.length) := Lib.hid (hkr ▸ HA.out)
            have HW2 : Hid (Wr w.heap.size (w.heap.size + 1) (Pl.apsTo rs rs.length) w.heap.size 0 false wr) := Lib.hid (hkr ▸ HW.out)
            have hal := apsTo_length rs hrl HRG.out rs.length (Nat.le_refl _)
            clear hkr HA HW
            go_wp2_with fail
            refine (cmd_at HW2.out [[37, 76, 80, 68, 42, 37]] _ _ _ rfl rfl rfl (by simp) (Pl.polOf false) rfl (by show (Pl.apsTo rs rs.length).length + 7 ≤ _; omega) HK.out.size).mono ?_
            rintro E w6 ⟨rfl, h6, k6⟩
            have HR3 : Hid (Rel3 rs ds w w.heap.size (w.heap.size + 1) (.int .i64 0) w6) := Lib.hid ⟨0, Nat.zero_le _, rfl, h6, Nat.le_trans HSL.out (by decide), HO.out.kw k6, HW2.out.kpw HK.out k6, D2, n2, HM.out.keep (HO.out.same k6), HA2.out⟩
            clear h6 k6 HW2 HO HK HS HM HA2 x2
            go_wp2_with fail
            go_loopw [82] (fun i wr => Rel3 rs ds w w.heap.size (w.heap.size + 1) i wr) (fun i _ => n - (intOf i).toNat)
            case atStart => exact HR3.out
            case round =>
              obtain ⟨k3, hk3, rfl, hwr, htl, hof, hkp, D3, n3, hmp, hap⟩ := hrel
              have HW := Lib.hid hwr
              have HO := Lib.hid hof
              have HK := Lib.hid hkp
              have HM := Lib.hid hmp
              have HA := Lib.hid hap
              have HTL := Lib.hid htl
              clear hwr hof hkp hmp hap htl HR3
              have hq0 : (0 : Int) ≤ (k3 : Int) := Int.natCast_nonneg _
              by_cases hlt3 : k3 < n
              · have hq1 : (k3 : Int) < (n : Int) := by omega
                have hlt4 : k3 < ds.length := by rw [HN.out]; exact hlt3
                obtain ⟨bo, off, ea, ec, rfl, hcap, hbo, c0, c1, c2, c3, hee⟩ := FD.out k3 hlt4
                have hcap2 : n ≤ cap := by have := HN.out; omega
                obtain ⟨d, hd⟩ : ∃ d, ds[k3] = d := ⟨_, rfl⟩
                have hdm : d ∈ ds := by rw [← hd]; exact List.getElem_mem _
                rw [hd] at c0 c1 c2 c3 hee
                have e0 : wr.cell? ⟨bo, off + k3 * 4, none⟩ = _ := (HK.out.below.cell (p := ⟨bo, off + k3 * 4, none⟩) hbo).trans c0
                have e1 : wr.cell? ⟨bo, off + k3 * 4 + 1, none⟩ = _ := (HK.out.below.cell (p := ⟨bo, off + k3 * 4 + 1, none⟩) hbo).trans c1
                have e2 : wr.cell? ⟨bo, off + k3 * 4 + 2, none⟩ = _ := (HK.out.below.cell (p := ⟨bo, off + k3 * 4 + 2, none⟩) hbo).trans c2
                have e3 : wr.cell? ⟨bo, off + k3 * 4 + 3, none⟩ = _ := (HK.out.below.cell (p := ⟨bo, off + k3 * 4 + 3, none⟩) hbo).trans c3
                have HEE := Lib.hid hee
                have hchk : Pl.chk d.s = 0 := Pl.firstBad_zero.1 HFZ.out d hdm
                have HSTEP : Hid (Pl.runTo rs ds (k3 + 1) = Pl.step rs (Pl.runTo rs ds k3) d) := Lib.hid (by rw [Pl.runTo_step rs ds k3 hlt4, hd])
                have hnum : Pl.num rs d.s.r ≤ 1000000 := by have := num_le rs d.s.r; omega
                have HAT : Hid (d.s.k = 1 → D3.atKey (.int .i64 d.s.r) (.lit (.int .i64 0)) = .lit (.int .i64 (Pl.num rs d.s.r : Nat))) := Lib.hid fun h => HA.out.num (by rw [← HRS.out]; exact (Pl.mem_radii ds _).2 ⟨d, hdm, h, rfl⟩)
                clear c0 c1 c2 c3 hee hcap hd hdm
                obtain ⟨sn, hsn⟩ : ∃ sn, d.s.es.length = sn := ⟨_, rfl⟩
                rw [hsn] at e1
                obtain ⟨⟨t, cc, ap⟩, hst⟩ : ∃ st, Pl.runTo rs ds k3 = st := ⟨_, rfl⟩
                rw [hst] at HW HTL HSTEP
                dsimp only at HW HTL
                have HLT1 := Lib.hid (polT_length cc d.clear)
                have HLT2 := Lib.hid (selT_length rs ap d.s hnum)
                have HLT3 := Lib.hid (shapeT_length hchk)
                have HST2 : Hid (Pl.runTo rs ds (k3 + 1) = ⟨t ++ Pl.polT cc d.clear ++ Pl.selT rs ap d.s ++ Pl.shapeT d.s, d.clear, Pl.apOf rs ap d.s⟩) := Lib.hid HSTEP.out
                have HNX : Hid ((t ++ Pl.polT cc d.clear ++ Pl.selT rs ap d.s ++ Pl.shapeT d.s).length ≤ (Pl.fileT ds).length) := Lib.hid (by have := Pl.file_le ds (k3 + 1); rw [HRS.out, HST2.out] at this; exact this)
                have HBD := Lib.hid (heap_alloc_new wr (Obj.cells #[.int .i64 d.s.k, .slice ea sn ec, .int .i64 d.s.r, .bool d.clear] 31))
                have KB : Hid (Kp wr (wr.alloc (Obj.cells #[.int .i64 d.s.k, .slice ea sn ec, .int .i64 d.s.r, .bool d.clear] 31)) none) := Lib.hid ((Kp.refl wr none).alloc _)
                have HW1 := Lib.hid (HW.out.kp KB.out)
                have HOB : Hid (Off (w.heap.size + 1) (wr.alloc (Obj.cells #[.int .i64 d.s.k, .slice ea sn ec, .int .i64 d.s.r, .bool d.clear] 31)) wr.heap.size) := Lib.hid (Off.new HW.out _)
                have HO1 := Lib.hid (HO.out.kp KB.out HW.out.lt)
                have HCK := Lib.hid hchk
                have HSN := Lib.hid hsn
                have HNU := Lib.hid hnum
                have HSZ : Hid (w.heap.size ≤ (wr.alloc (Obj.cells #[.int .i64 d.s.k, .slice ea sn ec, .int .i64 d.s.r, .bool d.clear] 31)).heap.size) := Lib.hid (HK.out.trans KB.out).size
                clear hst HSTEP hchk hsn hnum
                go_wp2_with fail
                refine (polarity_any w.heap.size (w.heap.size + 1) t w.heap.size ap cc d.clear _ HW1.out (by have := HTL.out; omega) HSZ.out).mono ?_
                rintro E w7 ⟨rfl, h7, k7⟩
                have HW7 := Lib.hid h7
                have HK7 := Lib.hid (HW1.out.kpw (HK.out.trans KB.out) k7)
                have HO7 := Lib.hid (HO1.out.kw k7)
                have HM7 : Hid (MapAt w7 w.heap.size n3 D3) := Lib.hid ((HM.out.keep (KB.out.block _ HM.out.lt (by simp))).keep (HO1.out.same k7))
                have hbx : w7.heap[wr.heap.size]? = _ := (HOB.out.same k7).trans HBD.out
                have z0 : w7.cell? ⟨wr.heap.size, 0, none⟩ = _ := Lib.cell_of_heap hbx 0
                have z1 : w7.cell? ⟨wr.heap.size, 1, none⟩ = _ := Lib.cell_of_heap hbx 1
                have z2 : w7.cell? ⟨wr.heap.size, 2, none⟩ = _ := Lib.cell_of_heap hbx 2
                clear h7 k7 hbx
                simp at z0 z1 z2
                go_wp2_with fail
                refine (draw_any (w.heap.size + 1) _ d.s rs w.heap.size ap d.clear D3 n3 ea sn ec HSN.out w w7 HW7.out HK7.out (HENV.out _ HK7.out) HEE.out HCK.out (by have := HTL.out; have := HLT1.out; rw [List.length_append]; omega) hW1 HM7.out HAT.out HNU.out).mono ?_
                rintro E w8 ⟨rfl, h8, k8⟩
                have HW8 : Hid (Wr w.heap.size (w.heap.size + 1) (t ++ Pl.polT cc d.clear ++ Pl.selT rs ap d.s ++ Pl.shapeT d.s) w.heap.size (Pl.apOf rs ap d.s : Nat) d.clear w8) := Lib.hid (h8.len (by simp only [List.append_assoc]))
                have HK8 := Lib.hid (HW7.out.kpw HK7.out k8)
                have HO8 := Lib.hid (HO7.out.kw k8)
                have HM8 : Hid (MapAt w8 w.heap.size n3 D3) := Lib.hid (HM7.out.keep (HO7.out.same k8))
                clear h8 k8 z0 z1 z2
                obtain ⟨t2, ht2⟩ : ∃ t2, t ++ Pl.polT cc d.clear ++ Pl.selT rs ap d.s ++ Pl.shapeT d.s = t2 := ⟨_, rfl⟩
                rw [ht2] at HST2 HNX HW8
                clear ht2
                by_cases hbig : 262144 < t2.length
                · have hbig2 : (262144 : Int) < (t2.length : Int) := by omega
                  have HFE := Lib.hid (HFL.out (Nat.lt_of_lt_of_le hbig HNX.out))
                  go_wp2_with fail
                  refine (len_any _ _ _ _ _ _ _ HW8.out).mono ?_
                  rintro E w9 ⟨rfl, rfl⟩
                  go_wp2_with fail
                  go_ret2
                  exact wr_is (t := []) HFE.out HK8.out
                · have hbig2 : ¬ (262144 : Int) < (t2.length : Int) := by omega
                  have HREL : Hid (Rel3 rs ds w w.heap.size (w.heap.size + 1) (.int .i64 (k3 + 1)) w8) := Lib.hid ⟨k3 + 1, hlt4, by go_num, by rw [HST2.out]; exact HW8.out, by rw [HST2.out]; exact Nat.le_of_not_lt hbig, HO8.out, HK8.out, D3, n3, HM8.out, HA.out⟩
                  go_wp2_with fail
                  refine (len_any _ _ _ _ _ _ _ HW8.out).mono ?_
                  rintro E w9 ⟨rfl, rfl⟩
                  go_wp2_with fail
                  first | exact ⟨HREL.out, by simp [intOf]; omega⟩ | (go_roundw; all_goals first | exact HREL.out | (simp [intOf]; omega))
              · have hq1 : ¬ (k3 : Int) < (n : Int) := by omega
                have hkn : k3 = ds.length := by have := HN.out; omega
                have HFT : Hid (Pl.fileT ds = (Pl.runTo rs ds k3).t ++ [77, 48, 50, 42, 10]) := Lib.hid (by unfold Pl.fileT; rw [HRS.out, hkn])
                clear hkn
                obtain ⟨⟨t, cc, ap⟩, hst⟩ : ∃ st, Pl.runTo rs ds k3 = st := ⟨_, rfl⟩
                rw [hst] at HW HTL HFT
                dsimp only at HW HTL HFT
                clear hst
                go_wp2_with fail
                refine (cmd_at HW.out [[77, 48, 50, 42]] _ _ _ rfl rfl rfl (by simp) [77, 48, 50, 42, 10] rfl (by have := HTL.out; show t.length + 5 ≤ _; omega) HK.out.size).mono ?_
                rintro E w7 ⟨rfl, h7, k7⟩
                rw [← HFT.out] at h7
                have HW7 := Lib.hid h7
                have HK7 := Lib.hid (HW.out.kpw HK.out k7)
                clear h7 k7
                have hne : Pl.fileT ds ≠ [] := by rw [HFT.out]; simp
                obtain ⟨ft, hft⟩ : ∃ ft, Pl.fileT ds = ft := ⟨_, rfl⟩
                rw [hft] at HFM HFL HW7 hne
                have HNE := Lib.hid hne
                clear hft hne HFT
                by_cases hbig : 262144 < ft.length
                · have hbig2 : (262144 : Int) < (ft.length : Int) := by omega
                  have HFE := Lib.hid (HFL.out hbig)
                  go_wp2_with fail
                  refine (len_any _ _ _ _ _ _ _ HW7.out).mono ?_
                  rintro E w9 ⟨rfl, rfl⟩
                  go_wp2_with fail
                  go_ret2
                  exact wr_is (t := []) HFE.out HK7.out
                · have hbig2 : ¬ (262144 : Int) < (ft.length : Int) := by omega
                  have HFE := Lib.hid (HFM.out hbig)
                  go_wp2_with fail
                  refine (len_any _ _ _ _ _ _ _ HW7.out).mono ?_
                  rintro E w9 ⟨rfl, rfl⟩
                  go_wp2_with fail
                  refine (string_any _ _ _ _ _ _ _ HW7.out HNE.out).mono ?_
                  rintro E w10 ⟨rfl, hb10⟩
                  go_wp2_with fail
                  go_ret2
                  exact wr_is HFE.out (kp_below HK7.out hb10)

end Go.Proofs.YtggplbenliaodaaDoor
