import Derived.Test.YtlhfjjkoflpecaaV1
namespace Go.Proofs.Ytlhfjjkoflpecaa
open Go.Proofs.YtlhfjjkoflpecaaAw Go.RowKit
set_option linter.unusedVariables false
set_option linter.unusedSimpArgs false
set_option maxRecDepth 20000
set_option maxHeartbeats 2000000
attribute [local go_sem] runL stepL runQ stepQ isStop AV.closed AV.closedL clo guardB isCall objOp pureOp ops opo opv cellsOf leafB putT constAV fitC loadA cut storeA storeR splice fieldA indexA lenA slOf slOfD binA binI binS binB binG unA pickA convA nilCheckA extractA sliceA sliceD natA toP sliceStr indexStr szB buildSliceA partsA inOrder freezeL freeze1 freezeV freezeVs appendA makeA minA buildA fieldsA verOf dtAt Ob.ver Ob.dt Dt.isSl Dt.len Dt.sz Dt.el Dt.snoc Dt.app Dt.app2 Dt.sub Dt.withEl Dt.zeros mkDoc mkVal mkRow mkRows mkStr mkInt mkByte mkBool mkPiece mkItem asDocs asVals asStrs asInts asRows Doc.cells Val.cells Row.cells Piece.cells Item.cells Doc.eta Val.eta calleeA callArgs calleeO opoL Le LeL LeO LeB LeV AV.under AV.underL Dt.docs.injEq Dt.vals.injEq Dt.rows.injEq Dt.rowss.injEq Dt.strs.injEq Dt.ints.injEq Dt.bytes.injEq Dt.bools.injEq Dt.pieces.injEq Dt.items.injEq eq_self retK retOK resA oneV thenQ blockQ loopQ cutQ retQ retOQ T1 ti1 T2 ti2 T3 ti3 T4 ti4 T5 ti5 T6 ti6 T7 ti7 T8 ti8 T9 ti9 T10 ti10 T11 ti11 T12 ti12 T13 ti13 T14 ti14 T15 ti15 T16 ti16 T17 ti17 T18 ti18 T19 ti19 T21 ti21 T22 ti22 T23 ti23 T24 ti24 T25 ti25 T26 ti26 T27 ti27 T28 ti28 T29 ti29 T30 ti30 T31 ti31 T32 ti32 T33 ti33 T34 ti34 T35 ti35 T36 ti36 T37 ti37 T39 ti39 T40 ti40 T41 ti41 T42 ti42 T43 ti43 T44 ti44 T45 ti45 T46 ti46 T47 ti47 T48 ti48 T49 ti49 T50 ti50 T51 ti51 T52 ti52 T53 ti53 T54 ti54 T55 ti55 T56 ti56 T57 ti57 T58 ti58 T59 ti59 T60 ti60 T61 ti61 T62 ti62 T63 ti63 T64 ti64 T65 ti65 T66 ti66 T67 ti67 T68 ti68 T70 ti70 T71 ti71 T72 ti72 T73 ti73 T74 ti74 T75 ti75 T76 ti76 T77 ti77 T78 ti78 T79 ti79 T83 ti83 T84 ti84 T85 ti85 T86 ti86 T87 ti87 T88 ti88 T90 ti90 T91 ti91 T92 ti92 T93 ti93 T97 ti97 T98 ti98 T99 ti99 T100 ti100 T101 ti101 T102 ti102 T103 ti103 T104 ti104 T105 ti105 T106 ti106 T107 ti107
attribute [local go_sem] runV AV.avoid AV.avoidL toH toH1 frH frH1 idx backs imps bump conv handB pickO all_some all_none false_implies implies_true Bool.not_true Bool.not_false Bool.or_true Bool.true_or Bool.or_false Bool.false_or List.getD_cons_zero List.getD_cons_succ List.getD_nil List.set_cons_zero List.set_cons_succ List.length_cons List.length_nil List.nil_append List.cons_append List.append_nil List.all_cons List.all_nil List.map_cons List.map_nil Bool.and_self Bool.and_true Bool.true_and if_true if_false ite_true ite_false Option.bind_some Option.bind_none Option.map_some Option.map_none Option.getD_some Option.getD_none List.getElem?_cons_zero List.getElem?_cons_succ List.getElem?_nil List.drop_zero List.drop_succ_cons List.drop_nil List.take_succ_cons List.take_zero List.take_nil Bool.false_eq_true Bool.cond_true_left Bool.cond_false_right beq_self_eq_true decide_true decide_false and_true true_and and_self List.toList_toArray reduceCtorEq List.replicate startAS Int.toNat_natCast



/-! ### Words, keys, valid values -/
def smem (s : ByteArray) (xs : List ByteArray) : Bool := xs.any (fun x => decide (x = s))
theorem smem_iff {s : ByteArray} {xs : List ByteArray} : smem s xs = true ↔ s ∈ xs := by
  unfold smem
  rw [List.any_eq_true]
  constructor
  · rintro ⟨x, h1, h2⟩; rw [← of_decide_eq_true h2]; exact h1
  · exact fun h => ⟨s, h, decide_eq_true rfl⟩
def wb (b : Int) : Bool := decide (b ≥ 97) && decide (b ≤ 122) || decide (b ≥ 48) && decide (b ≤ 57)
def wok (s : ByteArray) : Bool := (List.range s.size).all (fun j => wb (bt s j)) && (decide (1 ≤ s.size) && decide (s.size ≤ 8))
theorem range_all_succ (p : Nat → Bool) (n : Nat) : (List.range (n + 1)).all p = ((List.range n).all p && p n) := by
  rw [List.range_succ, List.all_append]; simp
theorem range_all_false {p : Nat → Bool} {n i : Nat} (h : i < n) (hp : p i = false) : (List.range n).all p = false := by
  rw [List.all_eq_false]
  exact ⟨i, List.mem_range.2 h, by simp [hp]⟩
theorem wok_end (s : ByteArray) (h : (List.range s.size).all (fun j => wb (bt s j)) = true) : (decide ((s.size : Int) ≥ 1) && decide ((s.size : Int) ≤ 8)) = wok s := by
  have e1 : decide ((s.size : Int) ≥ 1) = decide (1 ≤ s.size) := by rw [decide_eq_decide]; omega
  have e2 : decide ((s.size : Int) ≤ 8) = decide (s.size ≤ 8) := by rw [decide_eq_decide]; omega
  unfold wok; rw [h, e1, e2]; rfl
theorem wok_false {s : ByteArray} {i : Nat} (h : i < s.size) (hp : wb (bt s i) = false) : wok s = false := by
  unfold wok; rw [range_all_false h hp]; rfl
theorem smem_succ (s : ByteArray) (xs : List ByteArray) (j : Nat) (h : j < xs.length) : smem s (xs.take (j + 1)) = (smem s (xs.take j) || decide (xs.getD j ⟨#[]⟩ = s)) := by
  rw [take_snocD xs j ⟨#[]⟩ h]; unfold smem; rw [List.any_append]; simp
theorem mem_take_getD {xs : List ByteArray} {i j : Nat} (h : j < i) (hl : j < xs.length) : xs.getD j ⟨#[]⟩ ∈ xs.take i := by
  rw [getD_lt' xs _ j hl]
  exact List.mem_take_iff_getElem.2 ⟨j, by omega, rfl⟩
def kkey (ks : List ByteArray) (i : Nat) : Bool := wok (ks.getD i ⟨#[]⟩) && !smem (ks.getD i ⟨#[]⟩) (ks.take i)
def kok (ks : List ByteArray) : Bool := (List.range ks.length).all (kkey ks)
mutual
def vis : Nat → Val → Bool
  | d, ⟨k, w, ks, cs⟩ =>
    if d = 0 then false
    else if k = 1 then wok w && (decide (ks.length = 0) && decide (cs.length = 0))
    else if k = 2 then decide (w = ⟨#[]⟩) && (decide (ks.length = 0) && (viss (d - 1) cs && decide (cs.length ≤ 8)))
    else if k = 3 then decide (w = ⟨#[]⟩) && (decide (ks.length = cs.length) && (kok ks && (viss (d - 1) cs && decide (cs.length ≤ 8))))
    else false
def viss : Nat → List Val → Bool
  | _, [] => true
  | d, c :: cs => vis d c && viss d cs
end
theorem vis_eq (d : Nat) (v : Val) : vis d v = if d = 0 then false
    else if v.kind = 1 then wok v.word && (decide (v.keys.length = 0) && decide (v.kids.length = 0))
    else if v.kind = 2 then decide (v.word = ⟨#[]⟩) && (decide (v.keys.length = 0) && (viss (d - 1) v.kids && decide (v.kids.length ≤ 8)))
    else if v.kind = 3 then decide (v.word = ⟨#[]⟩) && (decide (v.keys.length = v.kids.length) && (kok v.keys && (viss (d - 1) v.kids && decide (v.kids.length ≤ 8))))
    else false := by cases v; simp only [vis]
theorem viss_append (d : Nat) (a b : List Val) : viss d (a ++ b) = (viss d a && viss d b) := by
  induction a with
  | nil => simp [viss]
  | cons x a ih => simp only [List.cons_append, viss, ih, Bool.and_assoc]
theorem viss_succ (d : Nat) (xs : List Val) (i : Nat) (h : i < xs.length) : viss d (xs.take (i + 1)) = (viss d (xs.take i) && vis d (xs.getD i default)) := by
  rw [take_snocD xs i default h, viss_append]; simp [viss]
theorem viss_false {d : Nat} : ∀ {xs : List Val} {i : Nat}, i < xs.length → vis d (xs.getD i default) = false → viss d xs = false
  | [], i, h, _ => by simp at h
  | x :: xs, 0, _, hv => by simp at hv; simp [viss, hv]
  | x :: xs, i + 1, h, hv => by simp at hv h; simp [viss, viss_false h (by simpa using hv)]
theorem kok_false {ks : List ByteArray} {i : Nat} (h : i < ks.length) (hk : kkey ks i = false) : kok ks = false := range_all_false h hk
mutual
def vcount : Val → Int
  | ⟨_, _, _, kids⟩ => 1 + vcounts kids
def vcounts : List Val → Int
  | [] => 0
  | v :: vs => vcount v + vcounts vs
end
theorem vcounts_append (a b : List Val) : vcounts (a ++ b) = vcounts a + vcounts b := by
  induction a with
  | nil => simp [vcounts]
  | cons x a ih => simp only [List.cons_append, vcounts, ih]; omega
mutual
theorem vcount_pos : ∀ v : Val, 1 ≤ vcount v
  | ⟨_, _, _, kids⟩ => by have := vcounts_nonneg kids; simp only [vcount]; omega
theorem vcounts_nonneg : ∀ vs : List Val, 0 ≤ vcounts vs
  | [] => Int.le_refl _
  | v :: vs => by have := vcount_pos v; have := vcounts_nonneg vs; simp only [vcounts]; omega
end
theorem vcount_eq (v : Val) : vcount v = 1 + vcounts v.kids := by cases v; rfl
/-- How many nodes a valid value has at the most. -/
def vmax : Nat → Int
  | 0 => 0
  | d + 1 => 1 + 8 * vmax d
mutual
theorem vis_count : ∀ (d : Nat) (v : Val), vis d v = true → vcount v ≤ vmax d
  | 0, ⟨k, w, ks, cs⟩, h => by simp [vis] at h
  | d + 1, ⟨k, w, ks, cs⟩, h => by
      have hm : 0 ≤ vmax d := by clear h; induction d with
        | zero => exact Int.le_refl _
        | succ d ih => simp only [vmax]; omega
      simp only [vis, vmax, vcount] at h ⊢
      split at h
      · cases h
      · split at h
        · simp only [Bool.and_eq_true, decide_eq_true_eq] at h
          have : cs = [] := List.eq_nil_of_length_eq_zero h.2.2
          subst this; simp only [vcounts]; omega
        · have key : viss d cs = true ∧ cs.length ≤ 8 := by
            split at h
            · simp only [Bool.and_eq_true, decide_eq_true_eq] at h; exact ⟨h.2.2.1, h.2.2.2⟩
            · split at h
              · simp only [Bool.and_eq_true, decide_eq_true_eq] at h; exact ⟨h.2.2.2.1, h.2.2.2.2⟩
              · cases h
          have h1 := viss_count d cs key.1
          have h2 : (cs.length : Int) * vmax d ≤ 8 * vmax d := Int.mul_le_mul_of_nonneg_right (by omega) hm
          omega
theorem viss_count : ∀ (d : Nat) (vs : List Val), viss d vs = true → vcounts vs ≤ vs.length * vmax d
  | d, [], h => by simp [vcounts]
  | d, v :: vs, h => by
      simp only [viss, Bool.and_eq_true] at h
      have h1 := vis_count d v h.1
      have h2 := viss_count d vs h.2
      simp only [vcounts, List.length_cons, Int.natCast_add, Int.add_mul]
      omega
end
mutual
def vok : Nat → Int → Val → Bool × Int
  | d, n, ⟨k, w, ks, cs⟩ =>
    if d = 0 ∨ n - 1 < 0 ∨ cs.length > 8 then (false, n - 1)
    else if k = 1 then (wok w && decide (ks.length + cs.length = 0), n - 1)
    else if k = 2 ∧ ks.length = 0 ∨ k = 3 ∧ ks.length = cs.length ∧ kok ks = true then
      ((voks (d - 1) (n - 1) cs).1 && decide (w = ⟨#[]⟩), (voks (d - 1) (n - 1) cs).2)
    else (false, n - 1)
def voks : Nat → Int → List Val → Bool × Int
  | _, n, [] => (true, n)
  | d, n, c :: cs => if (vok d n c).1 = true then voks d (vok d n c).2 cs else (false, (vok d n c).2)
end
theorem vok_eq (d : Nat) (n : Int) (v : Val) : vok d n v = if d = 0 ∨ n - 1 < 0 ∨ v.kids.length > 8 then (false, n - 1)
    else if v.kind = 1 then (wok v.word && decide (v.keys.length + v.kids.length = 0), n - 1)
    else if v.kind = 2 ∧ v.keys.length = 0 ∨ v.kind = 3 ∧ v.keys.length = v.kids.length ∧ kok v.keys = true then
      ((voks (d - 1) (n - 1) v.kids).1 && decide (v.word = ⟨#[]⟩), (voks (d - 1) (n - 1) v.kids).2)
    else (false, n - 1) := by cases v; simp only [vok]
theorem voks_succ (d : Nat) (n : Int) (xs : List Val) (i : Nat) (h : i < xs.length) (hp : (voks d n (xs.take i)).1 = true) :
    voks d n (xs.take (i + 1)) = ((vok d (voks d n (xs.take i)).2 (xs.getD i default)).1, (vok d (voks d n (xs.take i)).2 (xs.getD i default)).2) := by
  induction xs generalizing i n with
  | nil => simp at h
  | cons x xs ih =>
    cases i with
    | zero =>
      simp only [List.take_succ_cons, List.take_zero, voks, List.getD_cons_zero]
      split
      · rename_i e; rw [e]
      · rename_i e; rw [Bool.not_eq_true] at e; rw [e]
    | succ i =>
      simp only [List.take_succ_cons, voks, List.getD_cons_succ] at hp ⊢
      split at hp
      · rename_i e
        rw [if_pos e, if_pos e]
        exact ih _ i (by simpa using h) hp
      · simp at hp
theorem voks_stop (d : Nat) (n : Int) (xs : List Val) (i : Nat) (h : i < xs.length) (hp : (voks d n (xs.take (i + 1))).1 = false) : voks d n xs = (false, (voks d n (xs.take (i + 1))).2) := by
  induction xs generalizing i n with
  | nil => simp at h
  | cons x xs ih =>
    simp only [List.take_succ_cons, voks] at hp ⊢
    split
    · rename_i e
      rw [if_pos e] at hp
      cases i with
      | zero => simp [voks] at hp
      | succ i => exact ih _ i (by simpa using h) hp
    · rename_i e
      simp
mutual
theorem vok_vis : ∀ (d : Nat) (n : Int) (v : Val), 0 ≤ n → (vok d n v).1 = (vis d v && decide (vcount v ≤ n)) ∧ ((vok d n v).1 = true → (vok d n v).2 = n - vcount v)
  | d, n, ⟨k, w, ks, cs⟩, hn => by
      have hp := vcounts_nonneg cs
      have ih := fun h => voks_vis (d - 1) (n - 1) cs h
      have hm : vcount ⟨k, w, ks, cs⟩ = 1 + vcounts cs := rfl
      generalize vcount ⟨k, w, ks, cs⟩ = m at hm ⊢
      simp only [vok, vis]
      by_cases h0 : d = 0 ∨ n - 1 < 0 ∨ cs.length > 8
      · rw [if_pos h0]
        refine ⟨?_, fun h => by cases h⟩
        rcases h0 with h | h | h
        · rw [if_pos h]; rfl
        · rw [decide_eq_false (show ¬ m ≤ n by omega)]; simp
        · have h1 : decide (cs.length = 0) = false := decide_eq_false (by omega)
          have h8 : decide (cs.length ≤ 8) = false := decide_eq_false (by omega)
          rw [h1, h8]; simp
      · rw [if_neg h0]
        simp only [not_or] at h0
        obtain ⟨a1, a2, a3⟩ := h0
        have h8 : decide (cs.length ≤ 8) = true := decide_eq_true (by omega)
        obtain ⟨i1, i2⟩ := ih (by omega)
        rw [if_neg a1, h8]
        by_cases k1 : k = 1
        · rw [if_pos k1, if_pos k1]
          by_cases hl : ks.length + cs.length = 0
          · have e1 : ks.length = 0 := by omega
            have e2 : cs = [] := List.eq_nil_of_length_eq_zero (by omega)
            subst e2
            rw [decide_eq_true hl, decide_eq_true e1]
            simp only [vcounts] at hm
            rw [decide_eq_true (show m ≤ n by omega)]
            exact ⟨by simp, fun _ => by show n - 1 = n - m; omega⟩
          · rw [decide_eq_false hl]
            refine ⟨?_, fun h => by simp at h⟩
            by_cases e1 : ks.length = 0
            · rw [decide_eq_false (show ¬ cs.length = 0 by omega)]; simp
            · rw [decide_eq_false e1]; simp
        · rw [if_neg k1, if_neg k1]
          by_cases hc : k = 2 ∧ ks.length = 0 ∨ k = 3 ∧ ks.length = cs.length ∧ kok ks = true
          · rw [if_pos hc]
            have e : (if k = 2 then decide (w = ⟨#[]⟩) && (decide (ks.length = 0) && (viss (d - 1) cs && true)) else if k = 3 then decide (w = ⟨#[]⟩) && (decide (ks.length = cs.length) && (kok ks && (viss (d - 1) cs && true))) else false) = (decide (w = ⟨#[]⟩) && viss (d - 1) cs) := by
              rcases hc with ⟨k2, hl⟩ | ⟨k3, hl, hk⟩
              · rw [if_pos k2, decide_eq_true hl]; simp
              · rw [if_neg (by omega), if_pos k3, decide_eq_true hl, hk]; simp
            rw [e, i1]
            refine ⟨?_, fun h => ?_⟩
            · rw [show decide (m ≤ n) = decide (vcounts cs ≤ n - 1) from decide_eq_decide.2 (by omega)]
              cases decide (w = ⟨#[]⟩) <;> cases viss (d - 1) cs <;> cases decide (vcounts cs ≤ n - 1) <;> rfl
            · simp only [Bool.and_eq_true] at h
              rw [i2 (by rw [i1, Bool.and_eq_true]; exact h.1)]; omega
          · rw [if_neg hc]
            refine ⟨?_, fun h => by cases h⟩
            simp only [not_or, not_and] at hc
            by_cases k2 : k = 2
            · rw [if_pos k2, decide_eq_false (hc.1 k2)]; simp
            · rw [if_neg k2]
              by_cases k3 : k = 3
              · rw [if_pos k3]
                by_cases hl : ks.length = cs.length
                · have := hc.2 k3 hl
                  rw [Bool.not_eq_true] at this
                  rw [this]; simp
                · rw [decide_eq_false hl]; simp
              · rw [if_neg k3]; rfl
theorem voks_vis : ∀ (d : Nat) (n : Int) (vs : List Val), 0 ≤ n → (voks d n vs).1 = (viss d vs && decide (vcounts vs ≤ n)) ∧ ((voks d n vs).1 = true → (voks d n vs).2 = n - vcounts vs)
  | d, n, [], hn => by simp [voks, viss, vcounts, hn]
  | d, n, v :: vs, hn => by
      obtain ⟨h1, h2⟩ := vok_vis d n v hn
      have hc := vcount_pos v
      have hcs := vcounts_nonneg vs
      have hm : vcounts (v :: vs) = vcount v + vcounts vs := rfl
      generalize vcounts (v :: vs) = m at hm ⊢
      simp only [voks, viss]
      cases hv : (vok d n v).1 with
      | false =>
        rw [hv] at h1
        rw [if_neg (by simp)]
        refine ⟨?_, fun h => by cases h⟩
        cases hq : vis d v with
        | false => rfl
        | true =>
          rw [hq] at h1
          have : ¬ vcount v ≤ n := by simpa using h1.symm
          show false = (true && viss d vs && decide (m ≤ n))
          rw [decide_eq_false (show ¬ m ≤ n by omega)]; simp
      | true =>
        rw [if_pos rfl]
        have e2 := h2 hv
        rw [hv] at h1
        have h3 := h1.symm
        simp only [Bool.and_eq_true, decide_eq_true_eq] at h3
        obtain ⟨i1, i2⟩ := voks_vis d (vok d n v).2 vs (by omega)
        refine ⟨?_, fun h => by rw [i2 h, e2]; omega⟩
        rw [i1, h3.1, e2, Bool.true_and, show decide (vcounts vs ≤ n - vcount v) = decide (m ≤ n) from decide_eq_decide.2 (by omega)]
end

theorem c_impl_wordByte (b : Int) : PC Try.prog 61 [iv .u8 b] (fun r => r = bv (wb b)) := by
  refine PC.intro hT Try.func61 rfl (by decide) ?_
  intro F hF
  simp only [startAS, Try.f61, go_sem]
  refine AW.seq ?_
  refine AW.r hT ?_
  refine AW.seq ?_
  refine AW.r hT ?_
  refine AW.ret ?_
  simp only [go_sem, simprocAttr]
  rfl
theorem c_impl_wordOk (s : ByteArray) : PC Try.prog 53 [sv s] (fun r => r = bv (wok s)) := by
  refine PC.intro hT Try.func53 rfl (by decide) ?_
  intro F hF
  simp only [startAS, Try.f53, go_sem]
  refine AW.know fun hfit => ?_
  have hlen : s.size ≤ maxLen := hfit.1
  unfold maxLen at hlen
  clear hfit
  refine AW.seq ?_
  refine AW.r hT ?_
  refine AW.seq ?_
  refine AW.seq ?_
  refine AW.r hT ?_
  refine AW.block ?_
  refine AW.loop (ι := Nat) (fun i => i ≤ s.size ∧ (List.range i).all (fun j => wb (bt s j)) = true) (fun i => ⟨[sv s] ++ List.replicate 2 .dead ++ [iv .i64 i] ++ List.replicate 19 .dead, []⟩) (fun i => s.size - i) 0 ⟨Nat.zero_le _, rfl⟩ (fun _ => by rw [hF]; first | exact Nat.zero_le _ | simp) ?_ ?_
  · simp only [go_sem, simprocAttr]
    all_goals (rfl)
  · intro i hi
    have hi1 := hi.1
    refine AW.seq ?_
    refine AW.seq ?_
    refine AW.r hT ?_
    refine AW.c (fun h => ?_) (fun h => ?_)
    · skip
      have hlt : i < s.size := by omega
      refine AW.skip ?_
      refine AW.seq ?_
      refine AW.block ?_
      refine AW.seq ?_
      refine AW.region ?_
      refine AL.u hT ?_
      refine AL.c (c_impl_wordByte (bt s i)) ?_
      rintro r rfl
      refine AL.e hT ?_
      refine AW.c (fun h => ?_) (fun h => ?_)
      · skip
        refine AW.seq ?_
        refine AW.r hT ?_
        refine AW.ret ?_
        simp only [go_sem, simprocAttr]
        rw [wok_false hlt h]
      · skip
        refine AW.skip ?_
        refine AW.r hT ?_
        refine ⟨i + 1, ⟨by omega, by rw [range_all_succ, hi.2, h]; rfl⟩, (by show _ - (i + 1) < _ - i; omega), ?_⟩
        simp only [go_sem, simprocAttr]
        rw [wrapId (by omega) (by omega)]
        omega
    · skip
      have hi2 : i = s.size := by omega
      refine AW.exit ?_
      simp only [go_sem, simprocAttr]
      refine AW.seq ?_
      refine AW.r hT ?_
      refine AW.ret ?_
      simp only [go_sem, simprocAttr]
      subst hi2
      rw [wok_end s hi.2]
theorem c_spec_l10Word (s : ByteArray) : PC Try.prog 55 [sv s] (fun r => r = bv (wok s)) := by
  refine PC.intro hT Try.func55 rfl (by decide) ?_
  intro F hF
  simp only [startAS, Try.f55, go_sem]
  refine AW.know fun hfit => ?_
  have hlen : s.size ≤ maxLen := hfit.1
  unfold maxLen at hlen
  clear hfit
  refine AW.seq ?_
  refine AW.r hT ?_
  refine AW.seq ?_
  refine AW.seq ?_
  refine AW.r hT ?_
  refine AW.block ?_
  refine AW.loop (ι := Nat) (fun i => i ≤ s.size ∧ (List.range i).all (fun j => wb (bt s j)) = true) (fun i => ⟨[sv s] ++ List.replicate 2 .dead ++ [iv .i64 i] ++ List.replicate 37 .dead, []⟩) (fun i => s.size - i) 0 ⟨Nat.zero_le _, rfl⟩ (fun _ => by rw [hF]; first | exact Nat.zero_le _ | simp) ?_ ?_
  · simp only [go_sem, simprocAttr]
    all_goals (rfl)
  · intro i hi
    have hi1 := hi.1
    refine AW.seq ?_
    refine AW.seq ?_
    refine AW.r hT ?_
    refine AW.c (fun h => ?_) (fun h => ?_)
    · skip
      have hlt : i < s.size := by omega
      refine AW.skip ?_
      refine AW.seq ?_
      refine AW.block ?_
      refine AW.seq ?_
      refine AW.r hT ?_
      refine AW.cond rfl (fun h => ?_) (fun h => ?_)
      · skip
        have h : (!wb (bt s i)) = true := h
        rw [Bool.not_eq_true'] at h
        refine AW.seq ?_
        refine AW.r hT ?_
        refine AW.ret ?_
        simp only [go_sem, simprocAttr]
        rw [wok_false hlt h]
      · skip
        have h : (!wb (bt s i)) = false := h
        rw [Bool.not_eq_false'] at h
        refine AW.skip ?_
        refine AW.r hT ?_
        refine ⟨i + 1, ⟨by omega, by rw [range_all_succ, hi.2, h]; rfl⟩, (by show _ - (i + 1) < _ - i; omega), ?_⟩
        simp only [go_sem, simprocAttr]
        rw [wrapId (by omega) (by omega)]
        omega
    · skip
      have hi2 : i = s.size := by omega
      refine AW.exit ?_
      simp only [go_sem, simprocAttr]
      refine AW.seq ?_
      refine AW.r hT ?_
      refine AW.ret ?_
      simp only [go_sem, simprocAttr]
      subst hi2
      rw [wok_end s hi.2]
theorem c_slices_Index (xs : List ByteArray) (s : ByteArray) : PC Try.prog 62 [.d (.strs xs), sv s] (fun r => ∃ n, r = iv .i64 n ∧ (n ≥ 0 ↔ s ∈ xs)) := by
  refine PC.intro hT Try.func62 rfl (by decide) ?_
  intro F hF
  simp only [startAS, Try.f62, go_sem]
  refine AW.know fun hfit => ?_
  have hlen : xs.length ≤ maxLen := hfit.1
  unfold maxLen at hlen
  clear hfit
  refine AW.seq ?_
  refine AW.r hT ?_
  refine AW.seq ?_
  refine AW.seq ?_
  refine AW.r hT ?_
  refine AW.block ?_
  refine AW.loop (ι := Nat) (fun i => i ≤ xs.length ∧ s ∉ xs.take i) (fun i => ⟨[.d (.strs xs), sv s] ++ List.replicate 5 .dead ++ [iv .i64 xs.length, iv .i64 i] ++ List.replicate 10 .dead, []⟩) (fun i => xs.length - i) 0 ⟨Nat.zero_le _, by simp⟩ (fun _ => by rw [hF]; first | exact Nat.zero_le _ | simp) ?_ ?_
  · simp only [go_sem, simprocAttr]
    all_goals (rfl)
  · intro i hi
    have hi1 := hi.1
    refine AW.seq ?_
    refine AW.r hT ?_
    refine AW.seq ?_
    refine AW.c (fun h => ?_) (fun h => ?_)
    · skip
      have hlt : i < xs.length := by omega
      refine AW.skip ?_
      refine AW.seq ?_
      refine AW.block ?_
      refine AW.seq ?_
      refine AW.r hT ?_
      refine AW.seq ?_
      refine AW.r hT ?_
      refine AW.c (fun h => ?_) (fun h => ?_)
      · skip
        refine AW.seq ?_
        refine AW.r hT ?_
        refine AW.ret ?_
        simp only [go_sem, simprocAttr]
        refine ⟨_, rfl, fun _ => ?_, fun _ => by omega⟩
        rw [h, getD_lt' xs _ i hlt]
        exact List.getElem_mem hlt
      · skip
        refine AW.skip ?_
        refine AW.r hT ?_
        refine ⟨i + 1, ⟨by omega, by rw [take_snocD xs i ⟨#[]⟩ hlt]; simp only [List.mem_append, List.mem_singleton, not_or]; exact ⟨hi.2, h⟩⟩, (by show _ - (i + 1) < _ - i; omega), ?_⟩
        simp only [go_sem, simprocAttr]
        rw [wrapId (by omega) (by omega)]
        omega
    · skip
      have hi2 : i = xs.length := by omega
      refine AW.exit ?_
      simp only [go_sem, simprocAttr]
      refine AW.seq ?_
      refine AW.r hT ?_
      refine AW.ret ?_
      simp only [go_sem, simprocAttr]
      refine ⟨_, rfl, fun h => by omega, fun hm => ?_⟩
      rw [hi2, List.take_length] at hi
      exact absurd hm hi.2
theorem c_slices_Contains (xs : List ByteArray) (s : ByteArray) : PC Try.prog 54 [.d (.strs xs), sv s] (fun r => r = bv (smem s xs)) := by
  refine PC.intro hT Try.func54 rfl (by decide) ?_
  intro F hF
  simp only [startAS, Try.f54, go_sem]
  refine AW.seq ?_
  refine AW.r hT ?_
  refine AW.seq ?_
  refine AW.region ?_
  refine AL.u hT ?_
  refine AL.c (c_slices_Index xs s) ?_
  rintro r ⟨n, rfl, hn⟩
  refine AL.e hT ?_
  refine AW.ret ?_
  simp only [go_sem, simprocAttr]
  rw [show decide (n ≥ 0) = smem s xs from Bool.eq_iff_iff.2 (by rw [decide_eq_true_eq, smem_iff]; exact hn)]
theorem c_spec_l10Count (v : Val) : PC Try.prog 38 [.agg (v.cells.map .d)] (fun r => r = iv .i64 (IntKind.i64.wrap (vcount v))) := by
  refine PC.intro hT Try.func38 rfl (by decide) ?_
  intro F hF
  simp only [startAS, Try.f38, go_sem]
  refine AW.know fun hfit => ?_
  simp only [go_sem, fitsL, fits, fitsO, Nat.reduceAdd] at hfit
  have hlen : v.kids.length ≤ maxLen := by simp only [hfit]
  unfold maxLen at hlen
  clear hfit
  refine AW.seq ?_
  refine AW.r hT ?_
  refine AW.seq ?_
  refine AW.r hT ?_
  refine AW.seq ?_
  refine AW.seq ?_
  refine AW.r hT ?_
  refine AW.block ?_
  refine AW.loop (ι := Nat) (fun i => i ≤ v.kids.length) (fun i => ⟨List.replicate 1 .dead ++ [.ptr 0 0] ++ List.replicate 1 .dead ++ [iv .i64 (IntKind.i64.wrap (1 + vcounts (v.kids.take i))), iv .i64 i] ++ List.replicate 16 .dead, [.box 30 (v.cells.map .d)]⟩) (fun i => v.kids.length - i) 0 (Nat.zero_le _) (fun _ => by rw [hF]; first | exact Nat.zero_le _ | simp) ?_ ?_
  · simp only [go_sem, simprocAttr]
    all_goals (simp [vcounts, IntKind.wrap_i64])
  · intro i hi
    refine AW.seq ?_
    refine AW.seq ?_
    refine AW.r hT ?_
    refine AW.c (fun h => ?_) (fun h => ?_)
    · skip
      have hlt : i < v.kids.length := by omega
      refine AW.skip ?_
      refine AW.seq ?_
      refine AW.block ?_
      refine AW.region ?_
      refine AL.u hT ?_
      refine AL.c (c_spec_l10Count (v.kids.getD i default)) ?_
      rintro r rfl
      refine AL.e hT ?_
      refine AW.r hT ?_
      refine ⟨i + 1, by omega, (by show _ - (i + 1) < _ - i; omega), ?_⟩
      simp only [go_sem, simprocAttr]
      rw [take_snocD v.kids i default hlt, vcounts_append]
      simp only [vcounts, IntKind.wrap_i64]
      omega
    · skip
      refine AW.exit ?_
      simp only [go_sem, simprocAttr]
      refine AW.seq ?_
      refine AW.r hT ?_
      refine AW.ret ?_
      simp only [go_sem, simprocAttr]
      have hi : i = v.kids.length := by omega
      rw [hi, List.take_length]
      cases v; rfl
termination_by SizeOf.sizeOf v
decreasing_by exact Val.kid_lt v i hlt
theorem c_spec_l10Is (d : Nat) (hd : d ≤ 1000) (v : Val) : PC Try.prog 37 [.agg (v.cells.map .d), iv .i64 d] (fun r => r = bv (vis d v)) := by
  refine PC.intro hT Try.func37 rfl (by decide) ?_
  intro F hF
  simp only [startAS, Try.f37, go_sem]
  refine AW.know fun hfit => ?_
  simp only [go_sem, fitsL, fits, fitsO, Nat.reduceAdd] at hfit
  have hlen : v.kids.length ≤ maxLen := by simp only [hfit]
  have hlen2 : v.keys.length ≤ maxLen := by simp only [hfit]
  unfold maxLen at hlen hlen2
  clear hfit
  refine AW.seq ?_
  refine AW.r hT ?_
  refine AW.seq ?_
  refine AW.seq ?_
  refine AW.r hT ?_
  refine AW.c (fun h => ?_) (fun h => ?_)
  · skip
    refine AW.seq ?_
    refine AW.r hT ?_
    refine AW.ret ?_
    simp only [go_sem, simprocAttr]
    rw [vis_eq, if_pos (by omega)]
  · skip
    have hd0 : ¬ d = 0 := by omega
    refine AW.skip ?_
    refine AW.seq ?_
    refine AW.seq ?_
    refine AW.r hT ?_
    refine AW.c (fun h => ?_) (fun h => ?_)
    · skip
      have hk1 := h
      refine AW.seq ?_
      refine AW.region ?_
      refine AL.u hT ?_
      refine AL.c (c_spec_l10Word v.word) ?_
      rintro r rfl
      refine AL.e hT ?_
      refine AW.ret ?_
      simp only [go_sem, simprocAttr]
      rw [vis_eq, if_neg hd0, if_pos hk1, show decide ((v.keys.length : Int) = 0) = decide (v.keys.length = 0) from decide_eq_decide.2 (by omega), show decide ((v.kids.length : Int) = 0) = decide (v.kids.length = 0) from decide_eq_decide.2 (by omega), Bool.and_assoc]
    · skip
      have hk1 := h
      refine AW.skip ?_
      refine AW.seq ?_
      refine AW.seq ?_
      refine AW.r hT ?_
      refine AW.c (fun h => ?_) (fun h => ?_)
      · skip
        refine AW.seq ?_
        refine AW.r hT ?_
        refine AW.ret ?_
        simp only [go_sem, simprocAttr]
        rw [vis_eq, if_neg hd0, if_neg hk1]
        rcases h with ⟨h2, h3⟩ | h2
        · rw [if_neg h2, if_neg h3]
        · simp [h2]
      · skip
        obtain ⟨hk0, hw⟩ := h
        have hk : v.kind = 2 ∨ v.kind = 3 := by omega
        refine AW.skip ?_
        refine AW.seq ?_
        refine AW.seq ?_
        refine AW.r hT ?_
        refine AW.c (fun h => ?_) (fun h => ?_)
        · skip
          refine AW.seq ?_
          refine AW.r hT ?_
          refine AW.ret ?_
          simp only [go_sem, simprocAttr]
          rw [vis_eq, if_neg hd0, if_neg hk1]
          rcases h with ⟨h2, h3⟩ | ⟨h2, h3⟩
          · rw [if_pos h2, decide_eq_false (show ¬ v.keys.length = 0 by omega)]; simp
          · rw [if_neg (by omega), if_pos h2, decide_eq_false (show ¬ v.keys.length = v.kids.length by omega)]; simp
        · skip
          have h2 : v.kind = 2 → v.keys.length = 0 := fun e => by omega
          have h3 : v.kind = 3 → v.keys.length = v.kids.length := fun e => by omega
          have hdw : IntKind.i64.wrap ((d : Int) - 1) = ((d - 1 : Nat) : Int) := by rw [wrapId (by omega) (by omega)]; omega
          refine AW.skip ?_
          refine AW.seq ?_
          refine AW.seq ?_
          refine AW.r hT ?_
          refine AW.block ?_
          refine AW.loop (ι := Nat) (fun i => i ≤ v.kids.length ∧ (v.kind = 3 → (List.range i).all (kkey v.keys) = true) ∧ viss (d - 1) (v.kids.take i) = true) (fun i => ⟨List.replicate 1 .dead ++ [iv .i64 d, .ptr 0 0] ++ List.replicate 2 .dead ++ [iv .i64 i] ++ List.replicate 112 .dead, [.box 30 (v.cells.map .d)]⟩) (fun i => v.kids.length - i) 0 ⟨Nat.zero_le _, fun _ => rfl, rfl⟩ (fun _ => by rw [hF]; first | exact Nat.zero_le _ | simp) ?_ ?_
          · simp only [go_sem, simprocAttr]
            all_goals (rfl)
          · intro i hi
            have hi1 := hi.1
            refine AW.seq ?_
            refine AW.seq ?_
            refine AW.r hT ?_
            refine AW.c (fun h => ?_) (fun h => ?_)
            · skip
              have hlt : i < v.kids.length := by omega
              refine AW.skip ?_
              refine AW.seq ?_
              refine AW.block ?_
              refine AW.seq ?_
              refine AW.seq ?_
              refine AW.region ?_
              refine AL.u hT ?_
              refine AL.cF hT (fun hG => c_spec_l10Word (v.keys.getD i ⟨#[]⟩)) ?_
              simp only [go_sem, simprocAttr]
              refine AL.u hT ?_
              rw [hdw]
              refine AL.cF hT (fun hG => c_spec_l10Is (d - 1) (by omega) (v.kids.getD i default)) ?_
              simp only [go_sem, simprocAttr]
              refine AL.e hT ?_
              refine AW.c (fun h => ?_) (fun h => ?_)
              · skip
                refine AW.seq ?_
                refine AW.r hT ?_
                refine AW.ret ?_
                simp only [go_sem, simprocAttr]
                rcases h with ⟨e, hq⟩ | hq
                · have hf : kok v.keys = false := kok_false (i := i) (by have := h3 e; omega) (by unfold kkey; rw [hq]; rfl)
                  rw [vis_eq, if_neg hd0, if_neg hk1, if_neg (by omega), if_pos e, hf]; simp
                · have hf := viss_false hlt hq
                  rw [vis_eq, if_neg hd0, if_neg hk1, hf]; simp
              · skip
                have hwk : v.kind = 3 → wok (v.keys.getD i ⟨#[]⟩) = true := fun e => by
                  cases hq : wok (v.keys.getD i ⟨#[]⟩) with
                  | true => rfl
                  | false => exact absurd ⟨e, hq⟩ h.1
                have hvk : vis (d - 1) (v.kids.getD i default) = true := h.2
                refine AW.skip ?_
                refine AW.seq ?_
                refine AW.r hT ?_
                refine AW.block ?_
                refine AW.loop (ι := Nat) (fun j => j ≤ i ∧ (v.kind = 3 → smem (v.keys.getD i ⟨#[]⟩) (v.keys.take j) = false)) (fun j => ⟨List.replicate 1 .dead ++ [iv .i64 d, .ptr 0 0] ++ List.replicate 2 .dead ++ [iv .i64 i, iv .i64 j] ++ List.replicate 111 .dead, [.box 30 (v.cells.map .d)]⟩) (fun j => i - j) 0 ⟨Nat.zero_le _, fun _ => rfl⟩ (fun _ => by rw [hF]; first | exact Nat.zero_le _ | simp) ?_ ?_
                · simp only [go_sem, simprocAttr]
                  all_goals (rfl)
                · intro j hj
                  refine AW.seq ?_
                  refine AW.seq ?_
                  refine AW.r hT ?_
                  refine AW.c (fun h => ?_) (fun h => ?_)
                  · skip
                    have e3 : v.keys.length = v.kids.length := h3 h.2
                    have hji : (j : Int) < i := h.1
                    have hk3 := h.2
                    refine AW.skip ?_
                    refine AW.seq ?_
                    refine AW.block ?_
                    refine AW.seq ?_
                    refine AW.draw hT 10 (by decide) ?_
                    simp only [go_sem, simprocAttr]
                    refine DL.e ?_
                    refine AL.e hT ?_
                    refine AW.c (fun h => ?_) (fun h => ?_)
                    · skip
                      refine AW.seq ?_
                      refine AW.r hT ?_
                      refine AW.ret ?_
                      simp only [go_sem, simprocAttr]
                      have hf : kok v.keys = false := kok_false (i := i) (by omega) (by unfold kkey; rw [smem_iff.2 (h ▸ mem_take_getD (by omega) (by omega))]; simp)
                      rw [vis_eq, if_neg hd0, if_neg hk1, if_neg (by omega), if_pos hk3, hf]; simp
                    · skip
                      refine AW.skip ?_
                      refine AW.r hT ?_
                      refine ⟨j + 1, ⟨by omega, fun e => by rw [smem_succ _ _ _ (by omega), hj.2 e, decide_eq_false h]; rfl⟩, (by show i - (j + 1) < i - j; omega), ?_⟩
                      simp only [go_sem, simprocAttr]
                      rw [wrapId (by omega) (by omega)]
                      omega
                  · skip
                    have hkk : v.kind = 3 → kkey v.keys i = true := fun e => by
                      have hji : j = i := by omega
                      subst hji
                      unfold kkey; rw [hwk e, hj.2 e]; rfl
                    refine AW.exit ?_
                    simp only [go_sem, simprocAttr]
                    refine AW.r hT ?_
                    refine ⟨i + 1, ⟨by omega, fun e => by rw [range_all_succ, hi.2.1 e, hkk e]; rfl, by rw [viss_succ _ _ _ hlt, hi.2.2, hvk]; rfl⟩, (by show _ - (i + 1) < _ - i; omega), ?_⟩
                    simp only [go_sem, simprocAttr]
                    rw [wrapId (by omega) (by omega)]
                    omega
            · skip
              refine AW.exit ?_
              simp only [go_sem, simprocAttr]
              refine AW.seq ?_
              refine AW.r hT ?_
              refine AW.ret ?_
              simp only [go_sem, simprocAttr]
              have hie : i = v.kids.length := by omega
              have hvv : viss (d - 1) v.kids = true := by have := hi.2.2; rw [hie, List.take_length] at this; exact this
              rw [vis_eq, if_neg hd0, if_neg hk1, hvv, hw, show decide ((v.kids.length : Int) ≤ 8) = decide (v.kids.length ≤ 8) from decide_eq_decide.2 (by omega)]
              rcases hk with e | e
              · rw [if_pos e, h2 e]; simp
              · have hkok : kok v.keys = true := by unfold kok; rw [h3 e, ← hie]; exact hi.2.1 e
                rw [if_neg (by omega), if_pos e, hkok, decide_eq_true (h3 e)]; simp
termination_by SizeOf.sizeOf v
decreasing_by exact Val.kid_lt v i hlt
theorem c_spec_ValValid (v : Val) : PC Try.prog 18 [.agg (v.cells.map .d)] (fun r => r = bv (vis 4 v && decide (vcount v ≤ 12))) := by
  refine PC.intro hT Try.func18 rfl (by decide) ?_
  intro F hF
  simp only [startAS, Try.f18, go_sem]
  refine AW.seq ?_
  refine AW.r hT ?_
  refine AW.seq ?_
  refine AW.region ?_
  refine AL.u hT ?_
  refine AL.c (c_spec_l10Is 4 (by omega) v) ?_
  rintro r rfl
  refine AL.u hT ?_
  refine AL.cF hT (fun hG => c_spec_l10Count v) ?_
  simp only [go_sem, simprocAttr]
  refine AL.e hT ?_
  refine AW.ret ?_
  simp only [go_sem, simprocAttr]
  cases hv : vis 4 v with
  | false => rfl
  | true =>
    have h1 := vis_count 4 v hv
    have h2 := vcount_pos v
    have h3 : vmax 4 = 585 := by decide
    rw [wrapId (by omega) (by omega)]
theorem c_impl_valOk (d : Nat) (hd : d ≤ 1000) (n : Int) (hn0 : 0 ≤ n) (hn : n ≤ 1000) (v : Val) : GC Try.prog 36 [.box 3 [iv .i64 n]] [.agg (v.cells.map .d), iv .i64 d, .ptr 0 0] (fun os r => r = bv (vok d n v).1 ∧ ∃ more, os = .box 3 [iv .i64 (vok d n v).2] :: more) := by
  refine GC.intro hT Try.func36 rfl (by decide) ?_
  intro F hF
  simp only [startAS, Try.f36, go_sem]
  refine AW.know fun hfit => ?_
  simp only [go_sem, fitsL, fits, fitsO, Nat.reduceAdd] at hfit
  have hlen : v.kids.length ≤ maxLen := by simp only [hfit]
  have hlen2 : v.keys.length ≤ maxLen := by simp only [hfit]
  unfold maxLen at hlen hlen2
  clear hfit
  have hw : IntKind.i64.wrap (n - 1) = n - 1 := wrapId (by omega) (by omega)
  refine AW.seq ?_
  refine AW.r hT ?_
  refine AW.seq ?_
  refine AW.r hT ?_
  rw [hw]
  refine AW.seq ?_
  refine AW.seq ?_
  refine AW.r hT ?_
  refine AW.c (fun h => ?_) (fun h => ?_)
  · skip
    refine AW.seq ?_
    refine AW.r hT ?_
    refine AW.ret ?_
    simp only [go_sem, simprocAttr]
    rw [vok_eq, if_pos (by omega)]
    exact ⟨rfl, _, rfl⟩
  · skip
    have h0 : ¬ (d = 0 ∨ n - 1 < 0 ∨ v.kids.length > 8) := by omega
    have hdw : IntKind.i64.wrap ((d : Int) - 1) = ((d - 1 : Nat) : Int) := by rw [wrapId (by omega) (by omega)]; omega
    refine AW.skip ?_
    refine AW.seq ?_
    refine AW.seq ?_
    refine AW.r hT ?_
    refine AW.block ?_
    refine AW.seq ?_
    refine AW.r hT ?_
    refine AW.c (fun h => ?_) (fun h => ?_)
    · skip
      have hk1 := h
      refine AW.seq ?_
      refine AW.region ?_
      refine AL.u hT ?_
      refine AL.c (c_impl_wordOk v.word) ?_
      rintro r rfl
      refine AL.e hT ?_
      refine AW.ret ?_
      simp only [go_sem, simprocAttr]
      rw [vok_eq, if_neg h0, if_pos hk1, show decide (IntKind.i64.wrap ((v.keys.length : Int) + v.kids.length) = 0) = decide (v.keys.length + v.kids.length = 0) from decide_eq_decide.2 (by rw [IntKind.wrap_i64]; omega)]
      exact ⟨rfl, _, rfl⟩
    · skip
      have hk1 := h
      refine AW.seq ?_
      refine AW.r hT ?_
      refine AW.c (fun h => ?_) (fun h => ?_)
      · skip
        have hk2 := h
        refine AW.seq ?_
        refine AW.r hT ?_
        refine AW.c (fun h => ?_) (fun h => ?_)
        · skip
          refine AW.seq ?_
          refine AW.r hT ?_
          refine AW.ret ?_
          simp only [go_sem, simprocAttr]
          rw [vok_eq, if_neg h0, if_neg hk1, if_neg (fun hh => by rcases hh with ⟨_, hl⟩ | ⟨e, _⟩ <;> omega)]
          exact ⟨rfl, _, rfl⟩
        · skip
          have hc : v.kind = 2 ∧ v.keys.length = 0 ∨ v.kind = 3 ∧ v.keys.length = v.kids.length ∧ kok v.keys = true := .inl ⟨hk2, by omega⟩
          refine AW.skip ?_
          refine AW.seq ?_
          refine AW.seq ?_
          refine AW.r hT ?_
          refine AW.block ?_
          refine AW.loop (ι := Nat) (fun i => i ≤ v.kids.length ∧ (voks (d - 1) (n - 1) (v.kids.take i)).1 = true) (fun i => ⟨List.replicate 1 .dead ++ [iv .i64 d, .ptr 0 0, .ptr 1 0] ++ List.replicate 79 .dead ++ [.d (.vals v.kids), iv .i64 v.kids.length, iv .i64 i] ++ List.replicate 13 .dead, [.box 3 [iv .i64 (voks (d - 1) (n - 1) (v.kids.take i)).2], .box 30 (v.cells.map .d)]⟩) (fun i => v.kids.length - i) 0 ⟨Nat.zero_le _, by simp [voks]⟩ (fun _ => by rw [hF]; first | exact Nat.zero_le _ | simp) ?_ ?_
          · simp only [go_sem, simprocAttr]
            all_goals (simp only [voks])
          · intro i hi
            have hi1 := hi.1
            obtain ⟨hv1, hv2⟩ := voks_vis (d - 1) (n - 1) (v.kids.take i) (by omega)
            have hv3 := hv2 hi.2
            rw [hi.2] at hv1
            have hv4 : vcounts (v.kids.take i) ≤ n - 1 := by have := hv1.symm; simp only [Bool.and_eq_true, decide_eq_true_eq] at this; exact this.2
            have hv5 := vcounts_nonneg (v.kids.take i)
            refine AW.seq ?_
            refine AW.r hT ?_
            refine AW.seq ?_
            refine AW.c (fun h => ?_) (fun h => ?_)
            · skip
              have hlt : i < v.kids.length := by omega
              have hsu := voks_succ (d - 1) (n - 1) v.kids i hlt hi.2
              refine AW.skip ?_
              refine AW.seq ?_
              refine AW.block ?_
              refine AW.seq ?_
              refine AW.r hT ?_
              refine AW.seq ?_
              refine AW.region ?_
              refine AL.u hT ?_
              rw [hdw]
              refine AL.cP (ob := 0) (c_impl_valOk (d - 1) (by omega) (voks (d - 1) (n - 1) (v.kids.take i)).2 (by omega) (by omega) (v.kids.getD i default)) ?_
              rintro os r ⟨rfl, more, rfl⟩
              refine ⟨_, more, rfl, rfl, rfl, ?_⟩
              simp only [go_sem, simprocAttr]
              refine AL.e hT ?_
              refine AW.c (fun h => ?_) (fun h => ?_)
              · skip
                refine AW.seq ?_
                refine AW.r hT ?_
                refine AW.ret ?_
                simp only [go_sem, simprocAttr]
                have hst := voks_stop (d - 1) (n - 1) v.kids i hlt (by rw [hsu]; exact h)
                rw [vok_eq, if_neg h0, if_neg hk1, if_pos hc, hst, hsu]
                exact ⟨rfl, _, rfl⟩
              · skip
                refine AW.skip ?_
                refine AW.r hT ?_
                refine ⟨i + 1, ⟨by omega, by rw [hsu]; exact h⟩, (by show _ - (i + 1) < _ - i; omega), ?_⟩
                simp only [go_sem, simprocAttr]
                rw [wrapId (by omega) (by omega), hsu]
                exact ⟨by omega, rfl⟩
            · skip
              refine AW.exit ?_
              simp only [go_sem, simprocAttr]
              refine AW.seq ?_
              refine AW.r hT ?_
              refine AW.ret ?_
              simp only [go_sem, simprocAttr]
              have hie : i = v.kids.length := by omega
              rw [hie, List.take_length] at hi ⊢
              rw [vok_eq, if_neg h0, if_neg hk1, if_pos hc, hi.2]
              exact ⟨by simp, _, rfl⟩
      · skip
        have hk2 := h
        refine AW.seq ?_
        refine AW.r hT ?_
        refine AW.c (fun h => ?_) (fun h => ?_)
        · skip
          have hk3 := h
          refine AW.seq ?_
          refine AW.seq ?_
          refine AW.r hT ?_
          refine AW.c (fun h => ?_) (fun h => ?_)
          · skip
            refine AW.seq ?_
            refine AW.r hT ?_
            refine AW.ret ?_
            simp only [go_sem, simprocAttr]
            rw [vok_eq, if_neg h0, if_neg hk1, if_neg (fun hh => by rcases hh with ⟨_, hl⟩ | ⟨e, hl, _⟩ <;> omega)]
            exact ⟨rfl, _, rfl⟩
          · skip
            have hl := h
            refine AW.skip ?_
            refine AW.seq ?_
            refine AW.r hT ?_
            refine AW.block ?_
            refine AW.loop (ι := Nat) (fun i => i ≤ v.keys.length ∧ (List.range i).all (kkey v.keys) = true) (fun i => ⟨List.replicate 1 .dead ++ [iv .i64 d, .ptr 0 0, .ptr 1 0] ++ List.replicate 59 .dead ++ [.d (.strs v.keys), iv .i64 v.keys.length, iv .i64 i] ++ List.replicate 33 .dead, [.box 3 [iv .i64 (n - 1)], .box 30 (v.cells.map .d)]⟩) (fun i => v.keys.length - i) 0 ⟨Nat.zero_le _, rfl⟩ (fun _ => by rw [hF]; first | exact Nat.zero_le _ | simp) ?_ ?_
            · simp only [go_sem, simprocAttr]
              all_goals (rfl)
            · intro i hi
              have hi1 := hi.1
              refine AW.seq ?_
              refine AW.r hT ?_
              refine AW.seq ?_
              refine AW.c (fun h => ?_) (fun h => ?_)
              · skip
                have hlt : i < v.keys.length := by omega
                refine AW.skip ?_
                refine AW.seq ?_
                refine AW.block ?_
                refine AW.seq ?_
                refine AW.r hT ?_
                refine AW.seq ?_
                refine AW.region ?_
                refine AL.u hT ?_
                refine AL.c (c_impl_wordOk (v.keys.getD i ⟨#[]⟩)) ?_
                rintro r rfl
                refine AL.u hT ?_
                try simp only [Nat.sub_zero]
                refine AL.cF hT (fun hG => c_slices_Contains (v.keys.take i) (v.keys.getD i ⟨#[]⟩)) ?_
                simp only [go_sem, simprocAttr]
                refine AL.e hT ?_
                refine AW.c (fun h => ?_) (fun h => ?_)
                · skip
                  refine AW.seq ?_
                  refine AW.r hT ?_
                  refine AW.ret ?_
                  simp only [go_sem, simprocAttr]
                  have hf : kok v.keys = false := kok_false (i := i) hlt (by unfold kkey; rcases h with hq | hq <;> rw [hq] <;> simp)
                  rw [vok_eq, if_neg h0, if_neg hk1, if_neg (fun hh => by
                    rcases hh with ⟨e, _⟩ | ⟨_, _, e⟩
                    · omega
                    · rw [hf] at e; cases e)]
                  exact ⟨rfl, _, rfl⟩
                · skip
                  refine AW.skip ?_
                  refine AW.r hT ?_
                  refine ⟨i + 1, ⟨by omega, by rw [range_all_succ, hi.2]; unfold kkey; rw [h.1, (Bool.not_eq_true _).mp h.2]; rfl⟩, (by show _ - (i + 1) < _ - i; omega), ?_⟩
                  simp only [go_sem, simprocAttr]
                  rw [wrapId (by omega) (by omega)]
                  omega
              · skip
                have hc : v.kind = 2 ∧ v.keys.length = 0 ∨ v.kind = 3 ∧ v.keys.length = v.kids.length ∧ kok v.keys = true := .inr ⟨hk3, by omega, by unfold kok; rw [show v.keys.length = i by omega]; exact hi.2⟩
                clear hi hi1 h
                refine AW.exit ?_
                simp only [go_sem, simprocAttr]
                refine AW.seq ?_
                refine AW.seq ?_
                refine AW.r hT ?_
                refine AW.block ?_
                refine AW.loop (ι := Nat) (fun i => i ≤ v.kids.length ∧ (voks (d - 1) (n - 1) (v.kids.take i)).1 = true) (fun i => ⟨List.replicate 1 .dead ++ [iv .i64 d, .ptr 0 0, .ptr 1 0] ++ List.replicate 79 .dead ++ [.d (.vals v.kids), iv .i64 v.kids.length, iv .i64 i] ++ List.replicate 13 .dead, [.box 3 [iv .i64 (voks (d - 1) (n - 1) (v.kids.take i)).2], .box 30 (v.cells.map .d)]⟩) (fun i => v.kids.length - i) 0 ⟨Nat.zero_le _, by simp [voks]⟩ (fun _ => by rw [hF]; first | exact Nat.zero_le _ | simp) ?_ ?_
                · simp only [go_sem, simprocAttr]
                  all_goals (simp only [voks])
                · intro i hi
                  have hi1 := hi.1
                  obtain ⟨hv1, hv2⟩ := voks_vis (d - 1) (n - 1) (v.kids.take i) (by omega)
                  have hv3 := hv2 hi.2
                  rw [hi.2] at hv1
                  have hv4 : vcounts (v.kids.take i) ≤ n - 1 := by have := hv1.symm; simp only [Bool.and_eq_true, decide_eq_true_eq] at this; exact this.2
                  have hv5 := vcounts_nonneg (v.kids.take i)
                  refine AW.seq ?_
                  refine AW.r hT ?_
                  refine AW.seq ?_
                  refine AW.c (fun h => ?_) (fun h => ?_)
                  · skip
                    have hlt : i < v.kids.length := by omega
                    have hsu := voks_succ (d - 1) (n - 1) v.kids i hlt hi.2
                    refine AW.skip ?_
                    refine AW.seq ?_
                    refine AW.block ?_
                    refine AW.seq ?_
                    refine AW.r hT ?_
                    refine AW.seq ?_
                    refine AW.region ?_
                    refine AL.u hT ?_
                    rw [hdw]
                    refine AL.cP (ob := 0) (c_impl_valOk (d - 1) (by omega) (voks (d - 1) (n - 1) (v.kids.take i)).2 (by omega) (by omega) (v.kids.getD i default)) ?_
                    rintro os r ⟨rfl, more, rfl⟩
                    refine ⟨_, more, rfl, rfl, rfl, ?_⟩
                    simp only [go_sem, simprocAttr]
                    refine AL.e hT ?_
                    refine AW.c (fun h => ?_) (fun h => ?_)
                    · skip
                      refine AW.seq ?_
                      refine AW.r hT ?_
                      refine AW.ret ?_
                      simp only [go_sem, simprocAttr]
                      have hst := voks_stop (d - 1) (n - 1) v.kids i hlt (by rw [hsu]; exact h)
                      rw [vok_eq, if_neg h0, if_neg hk1, if_pos hc, hst, hsu]
                      exact ⟨rfl, _, rfl⟩
                    · skip
                      refine AW.skip ?_
                      refine AW.r hT ?_
                      refine ⟨i + 1, ⟨by omega, by rw [hsu]; exact h⟩, (by show _ - (i + 1) < _ - i; omega), ?_⟩
                      simp only [go_sem, simprocAttr]
                      rw [wrapId (by omega) (by omega), hsu]
                      exact ⟨by omega, rfl⟩
                  · skip
                    refine AW.exit ?_
                    simp only [go_sem, simprocAttr]
                    refine AW.seq ?_
                    refine AW.r hT ?_
                    refine AW.ret ?_
                    simp only [go_sem, simprocAttr]
                    have hie : i = v.kids.length := by omega
                    rw [hie, List.take_length] at hi ⊢
                    rw [vok_eq, if_neg h0, if_neg hk1, if_pos hc, hi.2]
                    exact ⟨by simp, _, rfl⟩
        · skip
          have hk3 := h
          refine AW.seq ?_
          refine AW.r hT ?_
          refine AW.ret ?_
          simp only [go_sem, simprocAttr]
          rw [vok_eq, if_neg h0, if_neg hk1, if_neg (fun hh => by rcases hh with ⟨e, hl⟩ | ⟨e, hl, _⟩ <;> omega)]
          exact ⟨rfl, _, rfl⟩
termination_by SizeOf.sizeOf v
decreasing_by all_goals exact Val.kid_lt v i hlt
theorem c_impl_ValValid (v : Val) : PC Try.prog 17 [.agg (v.cells.map .d)] (fun r => r = bv (vis 4 v && decide (vcount v ≤ 12))) := by
  refine PC.intro hT Try.func17 rfl (by decide) ?_
  intro F hF
  simp only [startAS, Try.f17, go_sem]
  refine AW.seq ?_
  refine AW.r hT ?_
  refine AW.seq ?_
  refine AW.r hT ?_
  refine AW.seq ?_
  refine AW.region ?_
  refine AL.u hT ?_
  refine AL.cP (ob := 1) (c_impl_valOk 4 (by omega) 12 (by omega) (by omega) v) ?_
  rintro os r ⟨rfl, more, rfl⟩
  refine ⟨_, more, rfl, rfl, rfl, ?_⟩
  simp only [go_sem, simprocAttr]
  refine AL.e hT ?_
  refine AW.ret ?_
  simp only [go_sem, simprocAttr]
  rw [(vok_vis 4 12 v (by omega)).1]
end Go.Proofs.Ytlhfjjkoflpecaa

