/- The program's combination of two lists (of). Condition: at most 2^16 rectangles in each list. -/
import Derived.Test.YtpakiabnhdoijaaFr
import Derived.Test.YtpakiabnhdoijaaPs
import Derived.Test.YtpakiabnhdoijaaEq
namespace Go.Proofs.Ytpakiabnhdoijaa
open Go.RowKit Go.Shelf

set_option maxHeartbeats 1000000 in
theorem set_old0 (v : Value) (xs : List Rc.Rect) (w : World) (h : IsRects w v xs) (hl : xs.length ≤ 65536) :
    Calls Try.prog 37 #[v] w fun E w' => ∃ u, E = .returned u ∧ (u = v ∧ Rc.set xs = xs ∨ u = .slice none 0 0 ∧ Rc.set xs = []) ∧ Kp w w' none := by
  have H := Lib.hid h
  have A := right_any v xs w h hl
  clear h
  by_cases hR : Rc.Right xs
  · have hs : Rc.set xs = xs := by unfold Rc.set; rw [if_pos hR]
    rw [hs]
    rw [decide_eq_true hR] at A
    clear hs
    go_enter Try.func37, Try.ntmps37
    go_wp2_with fail
    refine A.mono ?_
    rintro e w1 ⟨rfl, k1⟩
    have K1 := Lib.hid k1
    clear k1
    go_wp2_with fail
    go_ret
    exact ⟨_, rfl, by simp, K1.out⟩
  · have hs : Rc.set xs = [] := by unfold Rc.set; rw [if_neg hR]
    rw [hs]
    rw [decide_eq_false hR] at A
    clear hs
    go_enter Try.func37, Try.ntmps37
    go_wp2_with fail
    refine A.mono ?_
    rintro e w1 ⟨rfl, k1⟩
    have K1 := Lib.hid k1
    clear k1
    go_wp2_with fail
    go_ret
    exact ⟨_, rfl, by simp, K1.out⟩

theorem set_old (v : Value) (xs : List Rc.Rect) (w W : World) (h : IsRects w v xs) (k : Kp w W none) (hl : xs.length ≤ 65536) :
    Calls Try.prog 37 #[v] W fun E w' => ∃ ao cap, E = .returned (.slice ao (Rc.set xs).length cap) ∧ LiesAt 4 recVal w ao cap (Rc.set xs) ∧ Kp W w' none := by
  refine (set_old0 v xs W (h.keep k) hl).mono ?_
  rintro E w' ⟨u, rfl, ⟨rfl, e⟩ | ⟨rfl, e⟩, kk⟩
  · rw [e]
    obtain ⟨ao, cap, rfl, f⟩ := h.form
    exact ⟨ao, cap, rfl, f, kk⟩
  · rw [e]
    exact ⟨none, 0, rfl, fun _ h => by simp at h, kk⟩

set_option maxHeartbeats 1000000 in
theorem bands_make (ao : Option Addr) (n cap : Nat) (w : World) : Calls Try.prog 51 #[.slice ao n cap] w fun E w' => E = .returned (.func (.func 58) #[] #[.pointer (some ⟨w.heap.size, 0, none⟩)]) ∧ w' = w.alloc (Obj.cells #[.slice ao n cap] 22) := by
  go_enter Try.func51, Try.ntmps51
  go_wp2_with fail
  go_ret
  exact ⟨rfl, rfl⟩

theorem own_boxed {W : World} {n0 n r : Nat} {v c : Value} {t : TypeId} {xs : List Value} (h : W.ownsRow n0 44 4 v n xs) (hr : W.heap[r]? = some (Obj.cells #[c] t (0, 0))) (ht : t ≠ 44) (u : Value) : (W.setCell ⟨r, 0, none⟩ u).ownsRow n0 44 4 v n xs := by
  refine h.kept (row := some r) ((Kp.refl W (some r)).set u) ?_
  rcases h.2 with ⟨rfl, _⟩ | ⟨g, cap, cur, rfl, _, hg, _⟩
  · exact .inl rfl
  · refine .inr fun e => ?_
    have e2 : g = r := by injection e
    subst e2
    rw [hr] at hg; injection hg with hg; injection hg with _ h2 _; exact ht h2
theorem own_putObj {W : World} {n0 n D : Nat} {v : Value} {o : Obj} {xs : List Value} (h : W.ownsRow n0 44 4 v n xs) (hD : W.heap[D]? = some o) (ho : o.isCells = false) (o' : Obj) : (W.putObj D o').ownsRow n0 44 4 v n xs := by
  refine h.kept (grownBy_putObj' W D o') ?_
  rcases h.2 with ⟨rfl, _⟩ | ⟨g, cap, cur, rfl, _, hg, _⟩
  · exact .inl rfl
  · refine .inr fun e => ?_
    have e2 : g = D := by injection e
    subst e2
    rw [hD] at hg; injection hg with hg; subst hg; cases ho
theorem rects_at (w : World) (a b c d : Int) (g : Nat) (hg : g = w.heap.size) : IsRects (w.alloc (Obj.cells #[.int .i64 a, .int .i64 b, .int .i64 c, .int .i64 d] 44)) (.slice (some ⟨g, 0, none⟩) 1 1) [⟨a, b, c, d⟩] := by
  subst hg; exact rects_one w a b c d
/-- The loop that appends a row's rectangles. -/
def NRel (w W8 : World) (Bl : Nat) (cl : Value) (out : List Rc.Rect) (now : List Rc.Span) (y z : Int) (i : Value) (wr : World) : Prop :=
  ∃ j : Nat, j ≤ now.length ∧ i = .int .i64 j ∧ ∃ vq, wr.heap[w.heap.size + 1 + 1 + 1]? = some (Obj.cells #[vq] 22 (0, 0)) ∧ wr.heap[Bl]? = some (Obj.cells #[cl] 65 (0, 0)) ∧ wr.ownsRow w.heap.size 44 4 vq (out.length + j) ((out ++ (now.take j).map fun t => (⟨t.1, y, t.2, z⟩ : Rc.Rect)).flatMap recVal) ∧ Gr w.heap.size (w.heap.size + 1 + 1 + 1) Bl W8 wr
/-- A list appended to what the call owns, in a round. -/
theorem wpListIn_app {α : Type} {f : α → List Value} {w : World} {l m' : Nat} {ops : Array Oper} {rest : List Oper} {o : Oper} {a : Act} {Q : Exit → Act → World → Prop} (hgd : o.guard = none) (s xo : Operand) (base : Nat) (t e : TypeId)
    (ho : o.op = .call { callee := .builtin .append, args := #[s, xo], argTypes := #[t, t] }) (i : TypeInfo) (z : Value) (size bytes : Nat) (ht : Try.prog.underlying t = some (.slice e)) (hi : Try.prog.info? e = some i) (hz : i.zero = some z)
    (hsize : i.size = size) (hby : i.bytes = bytes) (hzs : z.cells.size = size) (hsz : 0 < size) (hm : ∀ x, (f x).length = size) (h1 : ∀ x, ∀ u ∈ f x, u.oneCell' = true)
    (v : Value) (n : Nat) (xs : List Value) (hs : a.eval s = v) (hown : w.ownsRow base e size v n xs) (x : Value) (ys : List α) (hxo : a.eval xo = x) (hx : IsList size f w x ys)
    (h63 : n + ys.length ≤ maxLen) (hbytes : (n + ys.length) * bytes ≤ 140737488355328) (hbase : base ≤ w.heap.size)
    (h : ∀ v' w', w'.ownsRow base e size v' (n + ys.length) (xs ++ ys.flatMap f) → w.grownBy w' v.ownBlock → (v'.ownBlock = v.ownBlock ∨ v'.ownBlock = some w.heap.size) → wpListIn (Fence.wide.inRound l) m' Try.prog ops Q rest (a.put o.dst v') w') : wpListIn (Fence.wide.inRound l) m' Try.prog ops Q (o :: rest) a w := by
  refine wpListIn_plain hgd fun K hK' => ?_
  exact oper_inRound (fun c hc => by rw [ho] at hc; cases hc) (fun _ _ h => h) (wp_app s xo base t e ho i z size bytes ht hi hz hsize hby hzs hsz hm h1 v n xs hs hown x ys hxo hx h63 hbytes hbase (fun v' w' h1 h2 h3 => hK' _ _ (h v' w' h1 h2 h3)))
theorem own_far {W : World} {n0 n r : Nat} {v : Value} {cs : Array Value} {t : TypeId} {fr : Nat × Nat} {xs : List Value} (h : W.ownsRow n0 44 4 v n xs) (hr : W.heap[r]? = some (Obj.cells cs t fr)) (ht : t ≠ 44) : some r ≠ v.ownBlock := by
  rcases h.2 with ⟨rfl, _⟩ | ⟨g, cap, cur, rfl, _, hg, _⟩
  · intro e; cases e
  · intro e
    have e2 : r = g := by injection e
    subst e2
    rw [hr] at hg; injection hg with hg; injection hg with _ h2 _; exact ht h2
/-- A round is over. -/
theorem of_next {w W W' : World} {kf Bl B : Nat} {va vb : Value} {row : Int → List Rc.Span} {pre : List Rc.Span} {x : Rc.Span} {out' : List Rc.Rect} {last' : List Rc.Span} {vo vo' : Value} {cl : Value} {nao : Option Addr} {ncap : Nat} (hge : w.heap.size + 4 ≤ Bl)
    (i1 : Below w.heap.size w W) (i2 : W.heap[w.heap.size]? = some (Obj.cells #[.func (.func kf) #[] #[]] 62 (0, 0))) (i3 : W.heap[w.heap.size + 1]? = some (Obj.cells #[va] 22 (0, 0))) (i4 : W.heap[w.heap.size + 1 + 1]? = some (Obj.cells #[vb] 22 (0, 0)))
    (i5 : W.heap[w.heap.size + 1 + 1 + 1]? = some (Obj.cells #[vo] 22 (0, 0))) (i6 : W.heap[Bl]? = some (Obj.cells #[cl] 65 (0, 0))) (G : Gr w.heap.size (w.heap.size + 1 + 1 + 1) Bl W W')
    (h5 : W'.heap[w.heap.size + 1 + 1 + 1]? = some (Obj.cells #[vo'] 22 (0, 0))) (h6 : W'.heap[Bl]? = some (Obj.cells #[.slice nao last'.length ncap] 65 (0, 0))) (h7 : TSpans W' nao ncap last') (h8 : W'.ownsRow w.heap.size 44 4 vo' out'.length (out'.flatMap recVal))
    (e : bandSt row (pre ++ [x]) = (out', last')) : KeepsFrom B W W' ∧ Kp3 W W' ∧ OfI w kf va vb w.heap.size (w.heap.size + 1) (w.heap.size + 1 + 1) (w.heap.size + 1 + 1 + 1) Bl row (pre ++ [x]) W' := by
  refine ⟨G.others.from B, G.kp3 i5 i6, i1.trans G.below, G.tf _ _ _ _ i2 (by decide) (by omega) (by omega), G.tf _ _ _ _ i3 (by decide) (by omega) (by omega), G.tf _ _ _ _ i4 (by decide) (by omega) (by omega), vo', nao, ncap, h5, ?_, ?_, ?_⟩
  · rw [e]; exact h6
  · rw [e]; exact h7
  · rw [e]; exact h8
theorem ysOf_len (l : List Rc.Rect) : (Rc.ysOf l).length ≤ 2 * l.length := by
  unfold Rc.ysOf
  have := Rc.ys_len l []
  simpa using this
theorem kp3_none {W W' : World} (h : Kp W W' none) : Kp3 W W' := ⟨h.size, fun k cs fr hk => (h.block k (lt_of_block hk) (by simp)).trans hk⟩
/-- The boxes behind the first statement. -/
def OfB (w : World) (kf : Nat) (A B : List Rc.Rect) (W : World) : Prop :=
  ∃ aoa capa aob capb, LiesAt 4 recVal w aoa capa A ∧ LiesAt 4 recVal w aob capb B ∧ Below w.heap.size w W ∧ w.heap.size + 4 ≤ W.heap.size ∧ W.heap[w.heap.size]? = some (Obj.cells #[.func (.func kf) #[] #[]] 62 (0, 0)) ∧ W.heap[w.heap.size + 1]? = some (Obj.cells #[.slice aoa A.length capa] 22 (0, 0)) ∧ W.heap[w.heap.size + 2]? = some (Obj.cells #[.slice aob B.length capb] 22 (0, 0)) ∧ W.heap[w.heap.size + 3]? = some (Obj.cells #[.slice none 0 0] 22 (0, 0))
def ofW (w : World) (f va vb : Value) : World := (((w.alloc (Obj.cells #[f] 62)).alloc (Obj.cells #[va] 22)).alloc (Obj.cells #[vb] 22)).alloc (Obj.cells #[.slice none 0 0] 22)
theorem ofW_new (w : World) (f va vb : Value) : (ofW w f va vb).heap[w.heap.size]? = some (Obj.cells #[f] 62 (0, 0)) ∧ (ofW w f va vb).heap[w.heap.size + 1]? = some (Obj.cells #[va] 22 (0, 0)) ∧ (ofW w f va vb).heap[w.heap.size + 2]? = some (Obj.cells #[vb] 22 (0, 0)) ∧ (ofW w f va vb).heap[w.heap.size + 3]? = some (Obj.cells #[.slice none 0 0] 22 (0, 0)) ∧ (ofW w f va vb).heap.size = w.heap.size + 4 := by
  have s1 : (w.alloc (Obj.cells #[f] 62)).heap.size = w.heap.size + 1 := by simp
  have s2 : ((w.alloc (Obj.cells #[f] 62)).alloc (Obj.cells #[va] 22)).heap.size = w.heap.size + 2 := by simp
  have s3 : (((w.alloc (Obj.cells #[f] 62)).alloc (Obj.cells #[va] 22)).alloc (Obj.cells #[vb] 22)).heap.size = w.heap.size + 3 := by simp
  have h0 := heap_alloc_new w (Obj.cells #[f] 62)
  have h1 := heap_alloc_new (w.alloc (Obj.cells #[f] 62)) (Obj.cells #[va] 22)
  have h2 := heap_alloc_new ((w.alloc (Obj.cells #[f] 62)).alloc (Obj.cells #[va] 22)) (Obj.cells #[vb] 22)
  have h3 := heap_alloc_new (((w.alloc (Obj.cells #[f] 62)).alloc (Obj.cells #[va] 22)).alloc (Obj.cells #[vb] 22)) (Obj.cells #[.slice none 0 0] 22)
  rw [s1] at h1; rw [s2] at h2; rw [s3] at h3
  have k3 : ∀ i, i < w.heap.size + 3 → (ofW w f va vb).heap[i]? = (((w.alloc (Obj.cells #[f] 62)).alloc (Obj.cells #[va] 22)).alloc (Obj.cells #[vb] 22)).heap[i]? := fun i hi => (World.grownBy_alloc _ _ none).block i (by rw [s3]; exact hi) (by simp)
  have k2 : ∀ i, i < w.heap.size + 2 → (((w.alloc (Obj.cells #[f] 62)).alloc (Obj.cells #[va] 22)).alloc (Obj.cells #[vb] 22)).heap[i]? = ((w.alloc (Obj.cells #[f] 62)).alloc (Obj.cells #[va] 22)).heap[i]? := fun i hi => (World.grownBy_alloc _ _ none).block i (by rw [s2]; exact hi) (by simp)
  have k1 : ∀ i, i < w.heap.size + 1 → ((w.alloc (Obj.cells #[f] 62)).alloc (Obj.cells #[va] 22)).heap[i]? = (w.alloc (Obj.cells #[f] 62)).heap[i]? := fun i hi => (World.grownBy_alloc _ _ none).block i (by rw [s1]; exact hi) (by simp)
  refine ⟨?_, ?_, ?_, h3, ?_⟩
  · rw [k3 _ (by omega), k2 _ (by omega), k1 _ (by omega)]; exact h0
  · rw [k3 _ (by omega), k2 _ (by omega)]; exact h1
  · rw [k3 _ (by omega)]; exact h2
  · simp [ofW]
theorem ofW_below (w : World) (f va vb : Value) : Kp w (ofW w f va vb) none := ((((Kp.refl w none).alloc _).alloc _).alloc _).alloc _
/-- Behind the two calls and the two stores. -/
theorem ofB_of {w W : World} {kf : Nat} {A B : List Rc.Rect} {va vb : Value} {aoa aob : Option Addr} {capa capb : Nat} (hk : Kp (ofW w (.func (.func kf) #[] #[]) va vb) W none) (hA : LiesAt 4 recVal w aoa capa A) (hB : LiesAt 4 recVal w aob capb B) :
    OfB w kf A B ((W.setCell ⟨w.heap.size + 1, 0, none⟩ (.slice aoa A.length capa)).setCell ⟨w.heap.size + 2, 0, none⟩ (.slice aob B.length capb)) := by
  obtain ⟨n0, n1, n2, n3, ns⟩ := ofW_new w (.func (.func kf) #[] #[]) va vb
  have keep : ∀ {i : Nat} {o : Obj}, (ofW w (.func (.func kf) #[] #[]) va vb).heap[i]? = some o → W.heap[i]? = some o := fun {i o} h => (hk.block i (lt_of_block h) (by simp)).trans h
  have m1 := box_set (.slice aoa A.length capa) (keep n1)
  have far : ∀ (V : World) (i j : Nat) (u : Value), i ≠ j → (V.setCell ⟨j, 0, none⟩ u).heap[i]? = V.heap[i]? := fun V i j u h => Below.heap_setCell _ _ _ _ h
  refine ⟨aoa, capa, aob, capb, hA, hB, ?_, ?_, ?_, ?_, ?_, ?_⟩
  · have b0 : Below w.heap.size w W := ((ofW_below w (.func (.func kf) #[] #[]) va vb).trans hk).below
    exact (b0.setCell (p := ⟨w.heap.size + 1, 0, none⟩) (by simp) _).setCell (p := ⟨w.heap.size + 2, 0, none⟩) (by simp) _
  · have := hk.size; simp; omega
  · rw [far _ _ _ _ (by omega), far _ _ _ _ (by omega)]; exact keep n0
  · rw [far _ _ _ _ (by omega)]; exact m1
  · exact box_set _ (by rw [far _ _ _ _ (by omega)]; exact keep n2)
  · rw [far _ _ _ _ (by omega), far _ _ _ _ (by omega)]; exact keep n3

attribute [local go_sem] Oper.semAt_some
set_option maxHeartbeats 16000000 in
set_option maxRecDepth 100000 in
theorem ofP_core (kf : Nat) (hkf : kf = 43 ∨ kf = 45 ∨ kf = 46) (va vb : Value) (a b A B : List Rc.Rect) (w : World) (ha : IsRects w va a) (hb : IsRects w vb b) (hla : a.length ≤ 65536) (hlb : b.length ≤ 65536) (hA : Rc.set a = A) (hB : Rc.set b = B) (hlA : A.length ≤ 4096) (hlB : B.length ≤ 4096) (okA : ∀ r ∈ A, r.ok) (okB : ∀ r ∈ B, r.ok) (row : Int → List Rc.Span) (hrow : row = Rc.rowS (kFun kf) A B) (fin : List Rc.Rect) (hfin : Rc.bands row (Rc.ysOf (A ++ B)) [] [] = fin) :
    Calls Try.prog 44 #[.agg #[.func (.func kf) #[] #[]], va, vb] w fun E w' => OwnRects w E w' fin := by
  have SA : Hid (∀ W, Kp w W none → Calls Try.prog 37 #[va] W fun E w' => ∃ ao cap, E = .returned (.slice ao A.length cap) ∧ LiesAt 4 recVal w ao cap A ∧ Kp W w' none) := Lib.hid fun W k => by
    have := set_old va a w W ha k hla
    rw [hA] at this
    exact this
  have SB : Hid (∀ W, Kp w W none → Calls Try.prog 37 #[vb] W fun E w' => ∃ ao cap, E = .returned (.slice ao B.length cap) ∧ LiesAt 4 recVal w ao cap B ∧ Kp W w' none) := Lib.hid fun W k => by
    have := set_old vb b w W hb k hlb
    rw [hB] at this
    exact this
  have HROW := Lib.hid hrow
  have HFIN := Lib.hid hfin
  have HRL : Hid (∀ y, (row y).length ≤ 16384) := Lib.hid fun y => by
    rw [hrow]
    have := Rc.row_len (kFun kf) A B y
    omega
  have HOKA := Lib.hid okA
  have HOKB := Lib.hid okB
  obtain ⟨aov, capv, rfl, _⟩ := ha.form
  obtain ⟨aow, capw, rfl, _⟩ := hb.form
  clear hrow hfin okA okB ha hb hA hB
  obtain ⟨i0, hi, hz0, hz1, hz2⟩ := info_parts infoRect
  refine (callsIn_wide (n := 6)).1 ?_
  refine callsIn_of_wp_marks Try.func44 rfl trivial ?_ rfl
  simp only [Try.ntmps44, List.size_toArray, List.length_cons, List.length_nil, Nat.reduceAdd, Nat.reduceSub, Array.replicate_succ, Array.replicate_zero, List.push_toArray, List.append_toArray, List.nil_append, List.cons_append]
  refine wpIn_wide.2 ?_
  obtain ⟨nb0, nb1, nb2, nb3, nbs⟩ := ofW_new w (.func (.func kf) #[] #[]) (.slice aov a.length capv) (.slice aow b.length capw)
  have KW := ofW_below w (.func (.func kf) #[] #[]) (.slice aov a.length capv) (.slice aow b.length capw)
  go_wp2_with fail
  change Code.wp _ _ _ _ (ofW w (.func (.func kf) #[] #[]) (.slice aov a.length capv) (.slice aow b.length capw))
  go_cut [3] from 13 to 16 (fun s3 wx => s3 = .pointer (some ⟨w.heap.size, 0, none⟩) ∧ OfB w kf A B wx)
  case first =>
    have NB1 := Lib.hid nb1
    have NB2 := Lib.hid nb2
    have ca := (box_cell nb1).1
    have cb := (box_cell nb2).1
    obtain ⟨W0, hW0⟩ : ∃ W0, ofW w (.func (.func kf) #[] #[]) (.slice aov a.length capv) (.slice aow b.length capw) = W0 := ⟨_, rfl⟩
    rw [hW0] at NB1 NB2 ca cb KW ⊢
    have KWH := Lib.hid KW
    have HW0 := Lib.hid hW0
    clear nb0 nb1 nb2 nb3 nbs KW hW0
    refine wp_region_held_drew (S := fun _ => True) (by kernel_rfl) trivial (fun hHeld => ?_)
    refine wpAnyH_ready (rs := [0, 2]) (by kernel_rfl) (by simp) ?_
    refine AllReadyH.cons (o := _) rfl (fun K hK => ?_) (AllReadyH.cons (o := _) rfl (fun K hK => ?_) AllReadyH.nil)
    · clear hHeld
      go_simp
      refine hK _ _ trivial (fun hHeld => ?_)
      clear hK K
      try simp only [Act.put, List.getElem_toArray, List.getElem_cons_zero, List.getElem_cons_succ, List.setIfInBounds_toArray, List.set_cons_zero, List.set_cons_succ]
      refine wpAnyH_ready (rs := [1, 2]) (by kernel_rfl) (by simp) ?_
      refine AllReadyH.cons (o := _) rfl (fun K hK => ?_) (AllReadyH.cons (o := _) rfl (fun K hK => ?_) AllReadyH.nil)
      · clear hHeld
        go_simp
        refine (SA.out W0.drew KWH.out.drew).mono ?_
        rintro E w3 ⟨aoa, capa, rfl, fa, k3⟩
        have FA := Lib.hid fa
        have K3 := Lib.hid ((Kp.refl W0 none).drew.trans k3)
        have cb3 := (box_cell ((K3.out.block _ (lt_of_block NB2.out) (by simp)).trans NB2.out)).1
        clear fa k3
        go_simp
        refine hK _ _ trivial (fun hHeld => ?_)
        clear hK K
        try simp only [Act.put, List.getElem_toArray, List.getElem_cons_zero, List.getElem_cons_succ, List.setIfInBounds_toArray, List.set_cons_zero, List.set_cons_succ]
        refine wpAnyH_ready (rs := [2]) (by kernel_rfl) (by simp) ?_
        refine AllReadyH.cons (o := _) rfl (fun K hK => ?_) AllReadyH.nil
        clear hHeld
        go_simp
        refine hK _ _ trivial (fun hHeld => ?_)
        clear hK K
        try simp only [Act.put, List.getElem_toArray, List.getElem_cons_zero, List.getElem_cons_succ, List.setIfInBounds_toArray, List.set_cons_zero, List.set_cons_succ]
        refine wpAnyH_ready (rs := [3]) (by kernel_rfl) (by simp) ?_
        refine AllReadyH.cons (o := _) rfl (fun K hK => ?_) AllReadyH.nil
        clear hHeld
        go_simp
        refine (SB.out w3 (KWH.out.trans K3.out)).mono ?_
        rintro E w4 ⟨aob, capb, rfl, fb, k4⟩
        have FB := Lib.hid fb
        have K4 := Lib.hid (K3.out.trans k4)
        clear fb k4
        obtain ⟨da, fra⟩ := box_cell ((K4.out.block _ (lt_of_block NB1.out) (by simp)).trans NB1.out)
        obtain ⟨db, frb⟩ := box_cell ((K4.out.block _ (lt_of_block NB2.out) (by simp)).trans NB2.out)
        go_simp
        refine hK _ _ trivial (fun hHeld => ?_)
        clear hK K
        try simp only [Act.put, List.getElem_toArray, List.getElem_cons_zero, List.getElem_cons_succ, List.setIfInBounds_toArray, List.set_cons_zero, List.set_cons_succ]
        refine wpAnyH_ready (rs := [4]) (by kernel_rfl) (by simp) ?_
        refine AllReadyH.cons (o := _) rfl (fun K hK => ?_) AllReadyH.nil
        clear hHeld
        go_simp
        refine hK _ _ trivial (fun hHeld => ?_)
        clear hK K
        try simp only [Act.put, List.getElem_toArray, List.getElem_cons_zero, List.getElem_cons_succ, List.setIfInBounds_toArray, List.set_cons_zero, List.set_cons_succ]
        refine wpAnyH_ready (rs := [5]) (by kernel_rfl) (by simp) ?_
        refine AllReadyH.cons (o := _) rfl (fun K hK => ?_) AllReadyH.nil
        clear hHeld
        go_simp
        refine hK _ _ trivial (fun hHeld => ?_)
        clear hK K hHeld
        try simp only [Act.put, List.getElem_toArray, List.getElem_cons_zero, List.getElem_cons_succ, List.setIfInBounds_toArray, List.set_cons_zero, List.set_cons_succ]
        refine wpAnyH_done (by kernel_rfl) ?_ _
        go_wp2_with fail
        go_meet
        exact ⟨rfl, ofB_of (by rw [HW0.out]; exact K4.out) FA.out FB.out⟩
      · clear hHeld
        go_simp
        refine hK _ _ trivial (fun hHeld => ?_)
        clear hK K
        try simp only [Act.put, List.getElem_toArray, List.getElem_cons_zero, List.getElem_cons_succ, List.setIfInBounds_toArray, List.set_cons_zero, List.set_cons_succ]
        refine wpAnyH_ready (rs := [1]) (by kernel_rfl) (by simp) ?_
        refine AllReadyH.cons (o := _) rfl (fun K hK => ?_) AllReadyH.nil
        clear hHeld
        go_simp
        refine (SA.out W0.drew KWH.out.drew).mono ?_
        rintro E w3 ⟨aoa, capa, rfl, fa, k3⟩
        have FA := Lib.hid fa
        have K3 := Lib.hid ((Kp.refl W0 none).drew.trans k3)
        have cb3 := (box_cell ((K3.out.block _ (lt_of_block NB2.out) (by simp)).trans NB2.out)).1
        clear fa k3
        go_simp
        refine hK _ _ trivial (fun hHeld => ?_)
        clear hK K
        try simp only [Act.put, List.getElem_toArray, List.getElem_cons_zero, List.getElem_cons_succ, List.setIfInBounds_toArray, List.set_cons_zero, List.set_cons_succ]
        refine wpAnyH_ready (rs := [3]) (by kernel_rfl) (by simp) ?_
        refine AllReadyH.cons (o := _) rfl (fun K hK => ?_) AllReadyH.nil
        clear hHeld
        go_simp
        refine (SB.out w3 (KWH.out.trans K3.out)).mono ?_
        rintro E w4 ⟨aob, capb, rfl, fb, k4⟩
        have FB := Lib.hid fb
        have K4 := Lib.hid (K3.out.trans k4)
        clear fb k4
        obtain ⟨da, fra⟩ := box_cell ((K4.out.block _ (lt_of_block NB1.out) (by simp)).trans NB1.out)
        obtain ⟨db, frb⟩ := box_cell ((K4.out.block _ (lt_of_block NB2.out) (by simp)).trans NB2.out)
        go_simp
        refine hK _ _ trivial (fun hHeld => ?_)
        clear hK K
        try simp only [Act.put, List.getElem_toArray, List.getElem_cons_zero, List.getElem_cons_succ, List.setIfInBounds_toArray, List.set_cons_zero, List.set_cons_succ]
        refine wpAnyH_ready (rs := [4]) (by kernel_rfl) (by simp) ?_
        refine AllReadyH.cons (o := _) rfl (fun K hK => ?_) AllReadyH.nil
        clear hHeld
        go_simp
        refine hK _ _ trivial (fun hHeld => ?_)
        clear hK K
        try simp only [Act.put, List.getElem_toArray, List.getElem_cons_zero, List.getElem_cons_succ, List.setIfInBounds_toArray, List.set_cons_zero, List.set_cons_succ]
        refine wpAnyH_ready (rs := [5]) (by kernel_rfl) (by simp) ?_
        refine AllReadyH.cons (o := _) rfl (fun K hK => ?_) AllReadyH.nil
        clear hHeld
        go_simp
        refine hK _ _ trivial (fun hHeld => ?_)
        clear hK K hHeld
        try simp only [Act.put, List.getElem_toArray, List.getElem_cons_zero, List.getElem_cons_succ, List.setIfInBounds_toArray, List.set_cons_zero, List.set_cons_succ]
        refine wpAnyH_done (by kernel_rfl) ?_ _
        go_wp2_with fail
        go_meet
        exact ⟨rfl, ofB_of (by rw [HW0.out]; exact K4.out) FA.out FB.out⟩
    · clear hHeld
      go_simp
      refine hK _ _ trivial (fun hHeld => ?_)
      clear hK K
      try simp only [Act.put, List.getElem_toArray, List.getElem_cons_zero, List.getElem_cons_succ, List.setIfInBounds_toArray, List.set_cons_zero, List.set_cons_succ]
      refine wpAnyH_ready (rs := [0]) (by kernel_rfl) (by simp) ?_
      refine AllReadyH.cons (o := _) rfl (fun K hK => ?_) AllReadyH.nil
      clear hHeld
      go_simp
      refine hK _ _ trivial (fun hHeld => ?_)
      clear hK K
      try simp only [Act.put, List.getElem_toArray, List.getElem_cons_zero, List.getElem_cons_succ, List.setIfInBounds_toArray, List.set_cons_zero, List.set_cons_succ]
      refine wpAnyH_ready (rs := [1]) (by kernel_rfl) (by simp) ?_
      refine AllReadyH.cons (o := _) rfl (fun K hK => ?_) AllReadyH.nil
      clear hHeld
      go_simp
      refine (SA.out W0.drew KWH.out.drew).mono ?_
      rintro E w3 ⟨aoa, capa, rfl, fa, k3⟩
      have FA := Lib.hid fa
      have K3 := Lib.hid ((Kp.refl W0 none).drew.trans k3)
      have cb3 := (box_cell ((K3.out.block _ (lt_of_block NB2.out) (by simp)).trans NB2.out)).1
      clear fa k3
      go_simp
      refine hK _ _ trivial (fun hHeld => ?_)
      clear hK K
      try simp only [Act.put, List.getElem_toArray, List.getElem_cons_zero, List.getElem_cons_succ, List.setIfInBounds_toArray, List.set_cons_zero, List.set_cons_succ]
      refine wpAnyH_ready (rs := [3]) (by kernel_rfl) (by simp) ?_
      refine AllReadyH.cons (o := _) rfl (fun K hK => ?_) AllReadyH.nil
      clear hHeld
      go_simp
      refine (SB.out w3 (KWH.out.trans K3.out)).mono ?_
      rintro E w4 ⟨aob, capb, rfl, fb, k4⟩
      have FB := Lib.hid fb
      have K4 := Lib.hid (K3.out.trans k4)
      clear fb k4
      obtain ⟨da, fra⟩ := box_cell ((K4.out.block _ (lt_of_block NB1.out) (by simp)).trans NB1.out)
      obtain ⟨db, frb⟩ := box_cell ((K4.out.block _ (lt_of_block NB2.out) (by simp)).trans NB2.out)
      go_simp
      refine hK _ _ trivial (fun hHeld => ?_)
      clear hK K
      try simp only [Act.put, List.getElem_toArray, List.getElem_cons_zero, List.getElem_cons_succ, List.setIfInBounds_toArray, List.set_cons_zero, List.set_cons_succ]
      refine wpAnyH_ready (rs := [4]) (by kernel_rfl) (by simp) ?_
      refine AllReadyH.cons (o := _) rfl (fun K hK => ?_) AllReadyH.nil
      clear hHeld
      go_simp
      refine hK _ _ trivial (fun hHeld => ?_)
      clear hK K
      try simp only [Act.put, List.getElem_toArray, List.getElem_cons_zero, List.getElem_cons_succ, List.setIfInBounds_toArray, List.set_cons_zero, List.set_cons_succ]
      refine wpAnyH_ready (rs := [5]) (by kernel_rfl) (by simp) ?_
      refine AllReadyH.cons (o := _) rfl (fun K hK => ?_) AllReadyH.nil
      clear hHeld
      go_simp
      refine hK _ _ trivial (fun hHeld => ?_)
      clear hK K hHeld
      try simp only [Act.put, List.getElem_toArray, List.getElem_cons_zero, List.getElem_cons_succ, List.setIfInBounds_toArray, List.set_cons_zero, List.set_cons_succ]
      refine wpAnyH_done (by kernel_rfl) ?_ _
      go_wp2_with fail
      go_meet
      exact ⟨rfl, ofB_of (by rw [HW0.out]; exact K4.out) FA.out FB.out⟩
  case rest =>
    obtain ⟨rfl, aoa, capa, aob, capb, fa, fb, hbel, hsz, hr1, ha1, hb1, ho1⟩ := hcut
    rename World => W1
    have FA := Lib.hid fa
    have FB := Lib.hid fb
    have HBEL := Lib.hid hbel
    have H1 : Hid (_ ∧ _ ∧ _ ∧ _) := Lib.hid ⟨hr1, ha1, hb1, ho1⟩
    have ca := (box_cell ha1).1
    have cb := (box_cell hb1).1
    clear fa fb hbel hr1 ha1 hb1 ho1 nb0 nb1 nb2 nb3 nbs KW SA SB
    have cr := (box_cell H1.out.1).1
    have ca2 : (W1.alloc (Obj.cells #[.slice none 0 0] 65)).cell? ⟨w.heap.size + 1, 0, none⟩ = some (.slice aoa A.length capa) := (((Kp.refl W1 none).alloc _).below.cell (p := ⟨w.heap.size + 1, 0, none⟩) (by show w.heap.size + 1 < W1.heap.size; omega)).trans ca
    have cb2 : (W1.alloc (Obj.cells #[.slice none 0 0] 65)).cell? ⟨w.heap.size + 1 + 1, 0, none⟩ = some (.slice aob B.length capb) := (((Kp.refl W1 none).alloc _).below.cell (p := ⟨w.heap.size + 1 + 1, 0, none⟩) (by show w.heap.size + 1 + 1 < W1.heap.size; omega)).trans cb
    have KQ : Hid (Kp W1 ((W1.alloc (Obj.cells #[.slice none 0 0] 65)).alloc (Obj.cells #[.slice aoa A.length capa, .slice aob B.length capb] 22)) none) := Lib.hid (((Kp.refl W1 none).alloc _).alloc _)
    have HQ : Hid (Kp w ((W1.alloc (Obj.cells #[.slice none 0 0] 65)).alloc (Obj.cells #[.slice aoa A.length capa, .slice aob B.length capb] 22)) none) := Lib.hid ((Kp.of_below HBEL.out).trans KQ.out)
    go_wp2_with fail
    refine (concatRect_any (W1.heap.size + 1) (.slice aoa A.length capa) (.slice aob B.length capb) A B _ (by simp) (by simp) (by simp) (FA.out.list.keep HQ.out) (FB.out.list.keep HQ.out) (by omega) (by omega)).mono ?_
    rintro E w2 ⟨uc, rfl, hown, k2⟩
    obtain ⟨AB, hAB⟩ : ∃ l, A ++ B = l := ⟨_, rfl⟩
    have hABl : AB.length ≤ 8192 := by rw [← hAB, List.length_append]; omega
    rw [hAB] at hown HFIN
    obtain ⟨aoc, capc, rfl, fc⟩ := (isList_own (m := 4) (f := recVal) (fun _ => rfl) hown).form
    have FC := Lib.hid fc
    have K2 := Lib.hid k2
    clear hown k2 fc hAB
    go_wp2_with fail
    refine (bands_make aoc AB.length capc w2).mono ?_
    rintro E Wl ⟨rfl, hWl⟩
    have HWL := Lib.hid hWl
    clear hWl
    go_wp2_with fail
    refine (wpIn_wide (n := 6)).1 ?_
    have KL : Hid (Kp W1 Wl none) := Lib.hid (by rw [HWL.out]; exact KQ.out.trans (K2.out.trans ((Kp.refl _ _).alloc _)))
    have hk1l : ∀ {i : Nat} {o : Obj}, W1.heap[i]? = some o → Wl.heap[i]? = some o := fun {i o} h => (KL.out.block i (lt_of_block h) (by simp)).trans h
    have hBl : Wl.heap[W1.heap.size]? = some (Obj.cells #[.slice none 0 0] 65 (0, 0)) := by
      rw [HWL.out]
      have k : Kp (W1.alloc (Obj.cells #[.slice none 0 0] 65)) (w2.alloc (Obj.cells #[.slice aoc AB.length capc] 22)) none := ((Kp.refl _ none).alloc _).trans (K2.out.trans ((Kp.refl _ _).alloc _))
      exact (k.block W1.heap.size (by simp) (by simp)).trans (heap_alloc_new W1 _)
    have HI0 : OfI w kf (.slice aoa A.length capa) (.slice aob B.length capb) w.heap.size (w.heap.size + 1) (w.heap.size + 1 + 1) (w.heap.size + 1 + 1 + 1) W1.heap.size row [] Wl :=
      ⟨HBEL.out.trans (KL.out.below.mono (by omega)), hk1l H1.out.1, hk1l H1.out.2.1, hk1l H1.out.2.2.1, .slice none 0 0, none, 0, hk1l H1.out.2.2.2, hBl, fun h => by simp [bandSt] at h, World.ownsRow_nil _ _ _ _⟩
    have hszl : w.heap.size ≤ Wl.heap.size := Nat.le_trans (by omega) KL.out.size
    have hbx : Wl.heap[w2.heap.size]? = some (Obj.cells #[.slice aoc AB.length capc] 22 (0, 0)) := by rw [HWL.out]; exact heap_alloc_new w2 _
    have HLW : IsRects Wl (.slice aoc AB.length capc) AB := by rw [HWL.out]; exact FC.out.list.keep ((Kp.refl _ none).alloc _)
    refine wpIn_rangeFunc_ownH (P := Try.prog) rfl (by omega) (gf := 58) (lb := #[.pointer (some ⟨w2.heap.size, 0, none⟩)]) rfl trivial (enters_of Try.func58 (by kernel_rfl) rfl)
      (bands_iter 5 (by omega) AB (.slice aoc AB.length capc) Wl w2.heap.size (lt_of_block hbx) (box_cell hbx).1 HLW (by omega)) Kp3.t (fun W l o o' _ h h1 _ => Kp3.b W l o o' h h1) (Below.refl _ _) (fun _ => rfl)
      (OfI w kf (.slice aoa A.length capa) (.slice aob B.length capb) w.heap.size (w.heap.size + 1) (w.heap.size + 1 + 1) (w.heap.size + 1 + 1 + 1) W1.heap.size row) (fun _ _ _ => False) (ofI_own hszl) (fun _ _ _ _ _ hs _ _ => hs) HI0
      (fun x a' W => OfA 0 x (fun Bx => #[.agg #[.func (.func kf) #[] #[]], .slice aov a.length capv, .slice aow b.length capw, .pointer (some ⟨w.heap.size, 0, none⟩), .pointer (some ⟨w.heap.size + 1, 0, none⟩), .pointer (some ⟨w.heap.size + 1 + 1, 0, none⟩), .pointer (some ⟨w.heap.size + 1 + 1 + 1, 0, none⟩), .pointer (some ⟨W1.heap.size, 0, none⟩), .pointer (some ⟨Bx, 0, none⟩), undef, undef, undef, undef, u13, u14, u15, u16, .slice aoa A.length capa, .slice aob B.length capb, .slice (some ⟨W1.heap.size + 1, 0, none⟩) 2 2, .slice aoc AB.length capc, .func (.func 58) #[] #[.pointer (some ⟨w2.heap.size, 0, none⟩)], .agg #[.int .i64 x.1, .int .i64 x.2], undef, undef, undef, undef, undef, undef, undef, undef, undef, undef, undef, undef, undef, undef, undef, undef, undef, undef, undef, undef, undef, undef, undef, undef, undef, undef, undef, undef, undef, undef, undef, undef, undef, undef, undef, undef, undef, undef, undef, undef, undef, undef, undef, undef, undef, undef, undef, undef, undef, undef]) a' W) (fun _ _ => ofA_own) ?assign ?body ?done ?stop
    case stop =>
      intro D c pre W _ _ h _
      exact h.elim
    case assign =>
      intro l pre x W K hI hK
      gi_wp2
      exact hK _ _ ((KeepsOthers.alloc _ _).from _) (kp3_none ((Kp.refl W none).alloc _)) ((ofI_own hszl).alloc _ hI) ⟨W.heap.size, Nat.zero_le _, heap_alloc_new W _, rfl⟩
    case done =>
      rintro D xs W hD rfl ⟨hb1, hb2, hb3, hb4, vo, lao, lcap, hb5, hb6, hb7, hb8⟩ hK
      have he : (bandSt row (pairs (Rc.ysOf AB))).1 = fin := by rw [← HFIN.out, bands_fold]; rfl
      rw [he] at hb8
      obtain ⟨bo, cpo, rfl, _⟩ := own_form hb8
      obtain ⟨co, fo⟩ := box_cell hb5
      have HB1 := Lib.hid hb1
      have HB5 := Lib.hid hb5
      have HB8 := Lib.hid hb8
      have HKD := Lib.hid hK
      clear hb1 hb2 hb3 hb4 hb5 hb6 hb7 hb8 hK he
      go_wp2_with fail
      have hK2 := (KeepsOthers.setCell W ⟨w.heap.size + 1 + 1 + 1, 0, none⟩ (.slice bo fin.length cpo)).same D _ HKD.out rfl
      refine ⟨by simp, .inl ⟨_, _, rfl, run_takeDeferred hK2, ?_⟩⟩
      have hbo2 := box_set (.slice bo fin.length cpo) HB5.out
      have hbo3 := ((grownBy_putObj' (W.setCell ⟨w.heap.size + 1 + 1 + 1, 0, none⟩ (.slice bo fin.length cpo)) D (.deferred none)).block (w.heap.size + 1 + 1 + 1) (lt_of_block hbo2) (by
        intro e; injection e with e; rw [← e, hbo2] at hK2; cases hK2)).trans hbo2
      have hc := (box_cell hbo3).1
      have hown2 := own_putObj (own_boxed HB8.out HB5.out (by decide) (.slice bo fin.length cpo)) hK2 rfl (.deferred none)
      have hbel2 : Below w.heap.size w ((W.setCell ⟨w.heap.size + 1 + 1 + 1, 0, none⟩ (.slice bo fin.length cpo)).putObj D (.deferred none)) :=
        (HB1.out.setCell (p := ⟨w.heap.size + 1 + 1 + 1, 0, none⟩) (by show w.heap.size ≤ w.heap.size + 1 + 1 + 1; omega) _).grown (grownBy_putObj' _ D (.deferred none)) (by simp; exact HB1.out.size) (fun k e => by injection e with e; omega)
      refine ⟨.slice bo fin.length cpo, ?_, _, rfl, hown2, Kp.of_below hbel2⟩
      simp [results, Try.results44, go_sem, hc]
    case body =>
      rintro l pre x a' W hl ⟨rr, hrr⟩ hI ⟨Bx, _, hBx, rfl⟩ hlen
      obtain ⟨y, z⟩ := x
      simp only [] at hBx ⊢
      obtain ⟨i1, i2, i3, i4, vo, lao, lcap, i5, i6, i7, i8⟩ := hI
      have hin := bandSt_inv row HRL.out pre ([], []) 0 (by simp) (by simp) (by simp)
      rw [show pre.foldl (bandStep row) ([], []) = bandSt row pre from rfl] at hin
      have hpl : pre.length ≤ 16384 := by rw [pairs_length] at hlen; have := ysOf_len AB; omega
      have HSN := Lib.hid (bandSt_snoc row pre (y, z))
      obtain ⟨⟨out, last⟩, hst⟩ : ∃ s, bandSt row pre = s := ⟨_, rfl⟩
      rw [hst] at i6 i7 i8 hin HSN
      simp only [] at i6 i7 i8 hin
      obtain ⟨hin1, hin2, hin3⟩ := hin
      have hol : out.length ≤ 16384 * 16384 := Nat.le_trans hin3 (Nat.mul_le_mul_right _ (by omega))
      obtain ⟨now, hnow⟩ : ∃ n, row y = n := ⟨_, rfl⟩
      have HNOW := Lib.hid hnow
      have hnl : now.length ≤ 16384 := by rw [← hnow]; exact HRL.out y
      have HSN2 : Hid (bandSt row (pre ++ [(y, z)]) = (if now = last then Rc.lift out now.length z else out ++ now.map fun t => ⟨t.1, y, t.2, z⟩, now)) := Lib.hid (by rw [HSN.out]; unfold bandStep; simp only [hnow])
      clear hst hnow HSN
      have I1 := Lib.hid i1
      have I2 := Lib.hid i2
      have I3 := Lib.hid i3
      have I4 := Lib.hid i4
      have I5 := Lib.hid i5
      have I6 := Lib.hid i6
      have I7 := Lib.hid i7
      have I8 := Lib.hid i8
      have IX := Lib.hid hBx
      have HCS : Hid (∀ V, Kp W V none → V.cell? ⟨w.heap.size, 0, none⟩ = some (.func (.func kf) #[] #[]) ∧ V.cell? ⟨w.heap.size + 1, 0, none⟩ = some (.slice aoa A.length capa) ∧ V.cell? ⟨w.heap.size + 1 + 1, 0, none⟩ = some (.slice aob B.length capb) ∧ V.cell? ⟨Bx, 0, none⟩ = some (.int .i64 y)) := Lib.hid fun V k => ⟨(box_cell ((k.block _ (lt_of_block I2.out) (by simp)).trans I2.out)).1, (box_cell ((k.block _ (lt_of_block I3.out) (by simp)).trans I3.out)).1, (box_cell ((k.block _ (lt_of_block I4.out) (by simp)).trans I4.out)).1, (box_two ((k.block _ (lt_of_block IX.out) (by simp)).trans IX.out)).1⟩
      have LA : Hid (∀ V, Kp W V none → IsRects V (.slice aoa A.length capa) A) := Lib.hid fun V k => (FA.out.list.keep (Kp.of_below I1.out)).keep k
      have LB : Hid (∀ V, Kp W V none → IsRects V (.slice aob B.length capb) B) := Lib.hid fun V k => (FB.out.list.keep (Kp.of_below I1.out)).keep k
      have KD := Lib.hid (Kp.refl W none).drew
      clear i1 i2 i3 i4 i5 i6 i7 i8 hBx
      gi_wp2
      refine region_inRound (S := fun w1 => w1.cell? ⟨w.heap.size, 0, none⟩ = some (.func (.func kf) #[] #[]) ∧ w1.cell? ⟨w.heap.size + 1, 0, none⟩ = some (.slice aoa A.length capa) ∧ w1.cell? ⟨w.heap.size + 1 + 1, 0, none⟩ = some (.slice aob B.length capb) ∧ w1.cell? ⟨Bx, 0, none⟩ = some (.int .i64 y)) (by kernel_rfl) (by simp) (by rintro ⟨_, _, h⟩; exact h) (HCS.out _ KD.out) (fun hHeld => ?_)
      refine wpAnyH_take (i := 0) (oi := _) (v := ?_) rfl (by kernel_rfl) (by kernel_rfl) (by kernel_rfl) (fun _ _ _ h => h) (Or.inl ⟨by rfl, ?_⟩) (by assumption) ?_
      rotate_left
      · (intro w hSw; (try dsimp only at hSw); go_simp <;> with_reducible rfl)
      try simp only [Act.put, List.getElem_toArray, List.getElem_cons_zero, List.setIfInBounds_toArray, List.set_cons_zero, List.set_cons_succ]
      refine wpAnyH_take (i := 1) (oi := _) (v := ?_) rfl (by kernel_rfl) (by kernel_rfl) (by kernel_rfl) (fun _ _ _ h => h) (Or.inl ⟨by rfl, ?_⟩) (by assumption) ?_
      rotate_left
      · (intro w hSw; (try dsimp only at hSw); go_simp <;> with_reducible rfl)
      try simp only [Act.put, List.getElem_toArray, List.getElem_cons_zero, List.getElem_cons_succ, List.setIfInBounds_toArray, List.set_cons_zero, List.set_cons_succ]
      refine wpAnyH_take (i := 2) (oi := _) (v := ?_) rfl (by kernel_rfl) (by kernel_rfl) (by kernel_rfl) (fun _ _ _ h => h) (Or.inl ⟨by rfl, ?_⟩) (by assumption) ?_
      rotate_left
      · (intro w hSw; (try dsimp only at hSw); go_simp <;> with_reducible rfl)
      try simp only [Act.put, List.getElem_toArray, List.getElem_cons_zero, List.getElem_cons_succ, List.setIfInBounds_toArray, List.set_cons_zero, List.set_cons_succ]
      refine wpAnyH_take (i := 3) (oi := _) (v := ?_) rfl (by kernel_rfl) (by kernel_rfl) (by kernel_rfl) (fun _ _ _ h => h) (Or.inl ⟨by rfl, ?_⟩) (by assumption) ?_
      rotate_left
      · (intro w hSw; (try dsimp only at hSw); go_simp <;> with_reducible rfl)
      try simp only [Act.put, List.getElem_toArray, List.getElem_cons_zero, List.getElem_cons_succ, List.setIfInBounds_toArray, List.set_cons_zero, List.set_cons_succ]
      refine wpAnyH_take (i := 5) (oi := _) (v := ?_) rfl (by kernel_rfl) (by kernel_rfl) (by kernel_rfl) (fun _ _ _ h => h) (Or.inl ⟨by rfl, ?_⟩) (by assumption) ?_
      rotate_left
      · (intro w hSw; (try dsimp only at hSw); go_simp <;> with_reducible rfl)
      try simp only [Act.put, List.getElem_toArray, List.getElem_cons_zero, List.getElem_cons_succ, List.setIfInBounds_toArray, List.set_cons_zero, List.set_cons_succ]
      refine wpAnyH_take (i := 6) (oi := _) (v := ?_) rfl (by kernel_rfl) (by kernel_rfl) (by kernel_rfl) (fun _ _ _ h => h) (Or.inl ⟨by rfl, ?_⟩) (by assumption) ?_
      rotate_left
      · (intro w hSw; (try dsimp only at hSw); go_simp <;> with_reducible rfl)
      try simp only [Act.put, List.getElem_toArray, List.getElem_cons_zero, List.getElem_cons_succ, List.setIfInBounds_toArray, List.set_cons_zero, List.set_cons_succ]
      refine wpAnyH_take (i := 7) (oi := _) (v := ?_) rfl (by kernel_rfl) (by kernel_rfl) (by kernel_rfl) (fun _ _ _ h => h) (Or.inl ⟨by rfl, ?_⟩) (by assumption) ?_
      rotate_left
      · (intro w hSw; (try dsimp only at hSw); go_simp <;> with_reducible rfl)
      try simp only [Act.put, List.getElem_toArray, List.getElem_cons_zero, List.getElem_cons_succ, List.setIfInBounds_toArray, List.set_cons_zero, List.set_cons_succ]
      refine wpAnyH_ready (rs := [4]) (by kernel_rfl) (by simp) ?_
      refine AllReadyH.cons (o := _) rfl (fun K hK => ?_) AllReadyH.nil
      clear hHeld
      go_simp
      refine (rowP_any (.slice aoa A.length capa) A y _ (LA.out _ KD.out) (by omega) HOKA.out).mono ?_
      rintro E w5 ⟨ra, ⟨ua, rfl, hua, k5⟩, ca1, cm1, hl1⟩
      have HUA := Lib.hid hua
      have K5 := Lib.hid (KD.out.trans k5)
      have CA1 := Lib.hid (And.intro ca1 cm1)
      clear hua k5 ca1 cm1
      try go_wp2_with fail
      refine hK.out _ _ (HCS.out _ K5.out) (fun hHeld => ?_)
      clear hK K
      try simp only [Act.put, List.getElem_toArray, List.getElem_cons_zero, List.getElem_cons_succ, List.setIfInBounds_toArray, List.set_cons_zero, List.set_cons_succ]
      refine wpAnyH_ready (rs := [8]) (by kernel_rfl) (by simp) ?_
      refine AllReadyH.cons (o := _) rfl (fun K hK => ?_) AllReadyH.nil
      clear hHeld
      go_simp
      refine (rowP_any (.slice aob B.length capb) B y _ (LB.out _ K5.out) (by omega) HOKB.out).mono ?_
      rintro E w6 ⟨rb, ⟨ub, rfl, hub, k6⟩, ca2, cm2, hl2⟩
      have HUA2 : Hid (IsSpans w6 ua ra) := Lib.hid ((isList_own (m := 2) (f := spanVal) (fun _ => rfl) HUA.out).keep k6)
      have HUB2 : Hid (IsSpans w6 ub rb) := Lib.hid (isList_own (m := 2) (f := spanVal) (fun _ => rfl) hub)
      have K6 := Lib.hid (K5.out.trans k6)
      have CB1 := Lib.hid (And.intro ca2 cm2)
      clear hub k6 ca2 cm2
      try go_wp2_with fail
      refine hK.out _ _ (HCS.out _ K6.out) (fun hHeld => ?_)
      clear hK K
      try simp only [Act.put, List.getElem_toArray, List.getElem_cons_zero, List.getElem_cons_succ, List.setIfInBounds_toArray, List.set_cons_zero, List.set_cons_succ]
      refine wpAnyH_ready (rs := [9]) (by kernel_rfl) (by simp) ?_
      refine AllReadyH.cons (o := _) rfl (fun K hK => ?_) AllReadyH.nil
      clear hHeld
      go_simp
      refine (combP_any kf hkf ua ub ra rb A B y _ HUA2.out HUB2.out hl1 hl2 CA1.out CB1.out).mono ?_
      rintro E w7 ⟨un, rfl, hun, k7⟩
      rw [← HROW.out, HNOW.out] at hun
      obtain ⟨nao, ncap, rfl, htn⟩ := tspans_own hun
      have HTN := Lib.hid htn
      have K7 := Lib.hid (K6.out.trans k7)
      clear hun htn k7
      try go_wp2_with fail
      refine hK.out _ _ (HCS.out _ K7.out) (fun hHeld => ?_)
      clear hK K
      try simp only [Act.put, List.getElem_toArray, List.getElem_cons_zero, List.getElem_cons_succ, List.setIfInBounds_toArray, List.set_cons_zero, List.set_cons_succ]
      refine wpAnyH_ready (rs := [10]) (by kernel_rfl) (by simp) ?_
      refine AllReadyH.cons (o := _) rfl (fun K hK => ?_) AllReadyH.nil
      clear hHeld
      go_simp
      try go_wp2_with fail
      refine hK.out _ _ (HCS.out _ K7.out) (fun hHeld => ?_)
      clear hK K hHeld
      refine wpAnyH_done (by kernel_rfl) ?_ _
      have G7 : Hid (Gr w.heap.size (w.heap.size + 1 + 1 + 1) W1.heap.size W w7) := Lib.hid (Kp.gr K7.out I1.out.size)
      have O7 := Lib.hid (I8.out.kept K7.out (by cases vo.ownBlock <;> simp))
      have B5 : Hid (w7.heap[w.heap.size + 1 + 1 + 1]? = some (Obj.cells #[vo] 22 (0, 0))) := Lib.hid ((K7.out.block _ (lt_of_block I5.out) (by simp)).trans I5.out)
      have B6 : Hid (w7.heap[W1.heap.size]? = some (Obj.cells #[.slice lao last.length lcap] 65 (0, 0))) := Lib.hid ((K7.out.block _ (lt_of_block I6.out) (by simp)).trans I6.out)
      have BX7 : Hid (w7.heap[Bx]? = some (Obj.cells #[.int .i64 y, .int .i64 z] 24 (0, 0))) := Lib.hid ((K7.out.block _ (lt_of_block IX.out) (by simp)).trans IX.out)
      have T7 := Lib.hid (I7.out.keep G7.out I5.out I6.out)
      have cl := (box_cell B6.out).1
      have hnn : (0 : Int) ≤ (now.length : Int) := Int.natCast_nonneg _
      clear HCS LA LB I7 I8 IX K7
      gi_wp2_with (refine ⟨trivial, ?_⟩; gi_at_call 55; refine (CallsIn.inRound l (callsIn_wide.2 (equalP_any (.slice nao now.length ncap) (.slice lao last.length lcap) now last w7 HTN.out.at.list T7.out.at.list (by omega)))).mono ?_)
      rintro E w8 ⟨rfl, q, hq⟩
      have K78 : Hid (Kp w7 w8 none) := Lib.hid (by rw [← hq]; exact (Kp.refl _ _).drewN q)
      clear hq cl
      have G8 : Hid (Gr w.heap.size (w.heap.size + 1 + 1 + 1) W1.heap.size W w8) := Lib.hid (G7.out.trans (Kp.gr K78.out (Nat.le_trans I1.out.size G7.out.below.size)))
      have O8 := Lib.hid (O7.out.kept K78.out (by cases vo.ownBlock <;> simp))
      have B58 : Hid (w8.heap[w.heap.size + 1 + 1 + 1]? = some (Obj.cells #[vo] 22 (0, 0))) := Lib.hid ((K78.out.block _ (lt_of_block B5.out) (by simp)).trans B5.out)
      have B68 : Hid (w8.heap[W1.heap.size]? = some (Obj.cells #[.slice lao last.length lcap] 65 (0, 0))) := Lib.hid ((K78.out.block _ (lt_of_block B6.out) (by simp)).trans B6.out)
      have BX8 : Hid (w8.heap[Bx]? = some (Obj.cells #[.int .i64 y, .int .i64 z] 24 (0, 0))) := Lib.hid ((K78.out.block _ (lt_of_block BX7.out) (by simp)).trans BX7.out)
      have TL8 : Hid (TSpans w8 lao lcap last) := Lib.hid (T7.out.keep (Kp.gr (Bo := w.heap.size + 1 + 1 + 1) (Bl := W1.heap.size) K78.out (Nat.le_refl _)) B5.out B6.out)
      have TN8 : Hid (TSpans w8 nao ncap now) := Lib.hid (HTN.out.keep (Kp.gr (Bo := w.heap.size + 1 + 1 + 1) (Bl := W1.heap.size) K78.out (Nat.le_refl _)) B5.out B6.out)
      clear G7 O7 B5 B6 BX7 T7 HTN K78
      by_cases he : now = last
      · have hed : decide (now = last) = true := by simpa using he
        rw [hed]
        have HS3 : Hid (bandSt row (pre ++ [(y, z)]) = (Rc.lift out now.length z, last)) := Lib.hid (by rw [HSN2.out, if_pos he, he])
        have hno : now.length ≤ out.length := by rw [he]; exact hin1
        clear HSN2 hed he
        gi_wp2
        gi_loopw [38] (fun i wq => HRel w w8 out now.length z vo i wq) (fun i _ => now.length - (intOf i).toNat)
        case atStart => exact ⟨0, Nat.zero_le _, rfl, by rw [Rc.lift_zero]; exact O8.out, Kp.refl _ _⟩
        case round =>
          obtain ⟨j, hj, rfl, hown, hK⟩ := hrel
          have HO9 := Lib.hid hown
          have K9 := Lib.hid hK
          clear hown hK
          have hj0 : (0 : Int) ≤ (j : Int) := Int.natCast_nonneg _
          have B59 := (K9.out.block _ (lt_of_block B58.out) (own_far O8.out B58.out (by decide))).trans B58.out
          have BX9 := (K9.out.block _ (lt_of_block BX8.out) (own_far O8.out BX8.out (by decide))).trans BX8.out
          by_cases hjt : j < now.length
          · have hj1 : (j : Int) < (now.length : Int) := by omega
            obtain ⟨bo, cap, rfl, hbo⟩ := own_form HO9.out
            obtain ⟨g, rfl⟩ := hbo (by omega)
            have c5 := (box_cell B59).1
            have cz := (box_two BX9).2
            have OL := own_lift HO9.out (j := j) (z := z) (by omega)
            obtain ⟨p, hp⟩ : ∃ p, out.length - 1 - j = p := ⟨_, rfl⟩
            rw [hp] at OL
            obtain ⟨⟨u0, o1⟩, o2, o3, o4⟩ := OL
            have hp1 : (out.length : Int) - 1 - (j : Int) = (p : Int) := by omega
            have hp2 : (p : Int) < (out.length : Int) := by omega
            have hp3 : (0 : Int) ≤ (p : Int) := by omega
            have HR9 : Hid (HRel w w8 out now.length z (.slice (some ⟨g, 0, none⟩) out.length cap) (.int .i64 (j + 1)) (wr.setCell ⟨g, p * 4 + 3, none⟩ (.int .i64 z))) := Lib.hid ⟨j + 1, hjt, by go_num, o3, K9.out.trans o4⟩
            clear o3 o4 hp B59 BX9
            gi_wp2
            go_roundw
            case rel => exact HR9.out
            case measure => simp [intOf]; omega
          · have hj1 : ¬ (j : Int) < (now.length : Int) := by omega
            have hjn : j = now.length := by omega
            have GQ : Gr w.heap.size (w.heap.size + 1 + 1 + 1) W1.heap.size w8 wr := Gr.own O8.out K9.out (Nat.le_trans I1.out.size G8.out.below.size)
            have B69 := (K9.out.block _ (lt_of_block B68.out) (own_far O8.out B68.out (by decide))).trans B68.out
            have HFIN9 : Hid (KeepsFrom Wl.heap.size W wr ∧ Kp3 W wr ∧ OfI w kf (.slice aoa A.length capa) (.slice aob B.length capb) w.heap.size (w.heap.size + 1) (w.heap.size + 1 + 1) (w.heap.size + 1 + 1 + 1) W1.heap.size row (pre ++ [(y, z)]) wr) := Lib.hid (of_next hsz I1.out I2.out I3.out I4.out I5.out I6.out (G8.out.trans GQ) B59 B69 (TL8.out.keep GQ B58.out B68.out) (by rw [lift_len]; have := HO9.out; rw [hjn] at this; exact this) HS3.out)
            clear B59 BX9 B69 GQ hjn
            gi_wp2
            exact HFIN9.out
      · have hed : decide (now = last) = false := by simpa using he
        rw [hed]
        have HS3 : Hid (bandSt row (pre ++ [(y, z)]) = (out ++ now.map fun t => (⟨t.1, y, t.2, z⟩ : Rc.Rect), now)) := Lib.hid (by rw [HSN2.out, if_neg he])
        clear HSN2 hed he TL8
        gi_wp2
        gi_loopw [54] (fun i wq => NRel w w8 W1.heap.size (.slice lao last.length lcap) out now y z i wq) (fun i _ => now.length - (intOf i).toNat)
        case atStart => exact ⟨0, Nat.zero_le _, rfl, vo, B58.out, B68.out, by simpa using O8.out, Gr.refl _ _ _ _ (Nat.le_trans I1.out.size G8.out.below.size)⟩
        case round =>
          obtain ⟨j, hj, rfl, vq, hb5, hb6, hown, hG⟩ := hrel
          have HO9 := Lib.hid hown
          have G9 := Lib.hid hG
          have B59 := Lib.hid hb5
          have B69 := Lib.hid hb6
          clear hown hG hb5 hb6
          have hj0 : (0 : Int) ≤ (j : Int) := Int.natCast_nonneg _
          have hszr : w.heap.size ≤ wr.heap.size := Nat.le_trans (Nat.le_trans I1.out.size G8.out.below.size) G9.out.below.size
          by_cases hjt : j < now.length
          · have hj1 : (j : Int) < (now.length : Int) := by omega
            obtain ⟨b2, off2, rfl, hb2, hc2, hr2⟩ := (TN8.out.keep G9.out B58.out B68.out).at j hjt
            obtain ⟨s, hs⟩ : ∃ s, now[j] = s := ⟨_, rfl⟩
            have d0 : wr.cell? ⟨b2, off2 + j * 2, none⟩ = some (.int .i64 s.1) := by subst hs; exact hr2 0 (by simp [spanVal])
            have d1 : wr.cell? ⟨b2, off2 + j * 2 + 1, none⟩ = some (.int .i64 s.2) := by subst hs; exact hr2 1 (by simp [spanVal])
            have BX9 := G9.out.tf Bx _ 24 _ BX8.out (by decide) (by rintro rfl; have h1 := B58.out; rw [BX8.out] at h1; injection h1 with h1; injection h1 with _ h2 _; cases h2) (by rintro rfl; have h1 := B68.out; rw [BX8.out] at h1; injection h1 with h1; injection h1 with _ h2 _; cases h2)
            obtain ⟨cy, cz⟩ := box_two BX9
            obtain ⟨bo, cap, rfl, _⟩ := own_form HO9.out
            have c5 := (box_cell B59.out).1
            have HST : Hid (∀ (v : Value) (wq : World), wq.ownsRow w.heap.size 44 4 v (out.length + j + [(⟨s.1, y, s.2, z⟩ : Rc.Rect)].length) ((out ++ (now.take j).map fun t => (⟨t.1, y, t.2, z⟩ : Rc.Rect)).flatMap recVal ++ [(⟨s.1, y, s.2, z⟩ : Rc.Rect)].flatMap recVal) → wq.ownsRow w.heap.size 44 4 v (out.length + (j + 1)) ((out ++ (now.take (j + 1)).map fun t => (⟨t.1, y, t.2, z⟩ : Rc.Rect)).flatMap recVal)) := Lib.hid fun v wq h => by
              rw [List.take_succ_eq_append_getElem hjt, List.map_append, ← List.append_assoc, List.flatMap_append, hs]
              exact h
            clear hs hr2 BX9
            obtain ⟨s0, s1⟩ := s
            simp only [] at d0 d1 HST
            have KC : Hid (Kp wr ((wr.alloc (Obj.cells #[.int .i64 s0, .int .i64 s1] 24)).alloc (Obj.cells #[.int .i64 s0, .int .i64 y, .int .i64 s1, .int .i64 z] 44)) none) := Lib.hid (((Kp.refl wr none).alloc _).alloc _)
            have OC := Lib.hid (HO9.out.kept KC.out (by cases (Value.slice bo (out.length + j) cap).ownBlock <;> simp))
            have cyA : ((wr.alloc (Obj.cells #[.int .i64 s0, .int .i64 s1] 24))).cell? ⟨Bx, 0, none⟩ = some (.int .i64 y) := (((Kp.refl wr none).alloc _).below.cell (p := ⟨Bx, 0, none⟩) (cell_lt cy)).trans cy
            have czA : ((wr.alloc (Obj.cells #[.int .i64 s0, .int .i64 s1] 24))).cell? ⟨Bx, 1, none⟩ = some (.int .i64 z) := (((Kp.refl wr none).alloc _).below.cell (p := ⟨Bx, 1, none⟩) (cell_lt cz)).trans cz
            have c5A : ((wr.alloc (Obj.cells #[.int .i64 s0, .int .i64 s1] 24))).cell? ⟨w.heap.size + 1 + 1 + 1, 0, none⟩ = some (.slice bo (out.length + j) cap) := (((Kp.refl wr none).alloc _).below.cell (p := ⟨w.heap.size + 1 + 1 + 1, 0, none⟩) (cell_lt c5)).trans c5
            gi_wp2_with (gi_at_builtin; refine wpListIn_app (f := recVal) (by rfl) _ _ w.heap.size 22 44 (by rfl) i0 _ 4 32 Try.underlying22 hi hz0 hz1 hz2 rfl (by omega) (fun _ => rfl) rec_one _ (out.length + j) _ (by rfl) OC.out (.slice (some ⟨wr.heap.size + 1, 0, none⟩) 1 1) [(⟨s0, y, s1, z⟩ : Rc.Rect)] (by rfl) (rects_at (wr.alloc (Obj.cells #[.int .i64 s0, .int .i64 s1] 24)) s0 y s1 z _ (by simp)) (by unfold maxLen; simp; omega) (by simp; omega) (Nat.le_trans hszr KC.out.size) ?_)
            intro v4 w4 ho4 hg4 hb4
            have OW4 := HST.out v4 w4 (by simpa using ho4)
            obtain ⟨bo4, cap4, rfl, _⟩ := own_form OW4
            have B5c := (KC.out.block _ (lt_of_block B59.out) (by simp)).trans B59.out
            have B6c := (KC.out.block _ (lt_of_block B69.out) (by simp)).trans B69.out
            have B5w := (hg4.block _ (lt_of_block B5c) (own_far OC.out B5c (by decide))).trans B5c
            have B6w := (hg4.block _ (lt_of_block B6c) (own_far OC.out B6c (by decide))).trans B6c
            obtain ⟨c5w, f5w⟩ := box_cell B5w
            have hgw := Nat.le_trans hszr KC.out.size
            have HREL : Hid (NRel w w8 W1.heap.size (.slice lao last.length lcap) out now y z (.int .i64 (j + 1)) (w4.setCell ⟨w.heap.size + 1 + 1 + 1, 0, none⟩ (.slice bo4 (out.length + (j + 1)) cap4))) := Lib.hid ⟨j + 1, hjt, by go_num, _, box_set _ B5w, (Below.heap_setCell _ _ _ _ (fun e => by have e2 : W1.heap.size = w.heap.size + 1 + 1 + 1 := e; omega)).trans B6w, own_boxed OW4 B5w (by decide) _, ((G9.out.trans (Kp.gr KC.out hszr)).trans (Gr.own OC.out hg4 hgw)).trans (Gr.box _ B5w (.inl rfl) (by omega))⟩
            clear ho4 hg4 hb4 OW4 B5c B6c B5w B6w HST OC cyA czA c5A
            gi_wp2
            go_roundw
            case rel => exact HREL.out
            case measure => simp [intOf]; omega
          · have hj1 : ¬ (j : Int) < (now.length : Int) := by omega
            have hjn : j = now.length := by omega
            have f6 := box_cell B69.out
            have B6n := box_set (.slice nao now.length ncap) B69.out
            have GB := Gr.box (n0 := w.heap.size) (Bo := w.heap.size + 1 + 1 + 1) (Bl := W1.heap.size) (.slice nao now.length ncap) B69.out (.inr rfl) (by omega)
            have B5n : (wr.setCell ⟨W1.heap.size, 0, none⟩ (.slice nao now.length ncap)).heap[w.heap.size + 1 + 1 + 1]? = some (Obj.cells #[vq] 22 (0, 0)) := (Below.heap_setCell _ _ _ _ (fun e => by have e2 : w.heap.size + 1 + 1 + 1 = W1.heap.size := e; omega)).trans B59.out
            have HFIN9 : Hid (KeepsFrom Wl.heap.size W (wr.setCell ⟨W1.heap.size, 0, none⟩ (.slice nao now.length ncap)) ∧ Kp3 W (wr.setCell ⟨W1.heap.size, 0, none⟩ (.slice nao now.length ncap)) ∧ OfI w kf (.slice aoa A.length capa) (.slice aob B.length capb) w.heap.size (w.heap.size + 1) (w.heap.size + 1 + 1) (w.heap.size + 1 + 1 + 1) W1.heap.size row (pre ++ [(y, z)]) (wr.setCell ⟨W1.heap.size, 0, none⟩ (.slice nao now.length ncap))) := Lib.hid (of_next hsz I1.out I2.out I3.out I4.out I5.out I6.out ((G8.out.trans G9.out).trans GB) B5n B6n ((TN8.out.keep G9.out B58.out B68.out).keep GB B59.out B69.out) (by have := own_boxed HO9.out B69.out (by decide) (.slice nao now.length ncap); rw [hjn, List.take_length] at this; rw [List.length_append, List.length_map]; exact this) HS3.out)
            obtain ⟨f6a, f6b⟩ := f6
            clear B6n GB B5n hjn
            gi_wp2
            exact HFIN9.out

/-- The program's combination of two lists. -/
theorem ofP_any (kf : Nat) (hkf : kf = 43 ∨ kf = 45 ∨ kf = 46) (va vb : Value) (a b : List Rc.Rect) (w : World) (ha : IsRects w va a) (hb : IsRects w vb b) (hla : a.length ≤ 65536) (hlb : b.length ≤ 65536) :
    Calls Try.prog 44 #[.agg #[.func (.func kf) #[] #[]], va, vb] w fun E w' => OwnRects w E w' (Rc.comb (kFun kf) a b) :=
  ofP_core kf hkf va vb a b _ _ w ha hb hla hlb rfl rfl (set_many a) (set_many b) (Rc.set_ok a) (Rc.set_ok b) _ rfl _ rfl

end Go.Proofs.Ytpakiabnhdoijaa
