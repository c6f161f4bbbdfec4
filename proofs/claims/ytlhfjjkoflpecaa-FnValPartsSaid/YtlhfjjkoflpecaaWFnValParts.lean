import Derived.Test.YtlhfjjkoflpecaaT4
namespace Go.Proofs.Ytlhfjjkoflpecaa
open Go.Proofs.YtlhfjjkoflpecaaAw Go.RowKit
set_option linter.unusedVariables false
set_option linter.unusedSimpArgs false
set_option maxRecDepth 20000
set_option maxHeartbeats 2000000
attribute [local go_sem] runL stepL runQ stepQ isStop AV.closed AV.closedL clo guardB isCall objOp pureOp ops opo opv cellsOf leafB putT constAV fitC loadA cut storeA storeR splice fieldA indexA lenA slOf slOfD binA binI binS binB binG unA pickA convA nilCheckA extractA sliceA sliceD natA toP sliceStr indexStr szB buildSliceA partsA inOrder freezeL freeze1 freezeV freezeVs appendA makeA minA buildA fieldsA verOf dtAt Ob.ver Ob.dt Dt.isSl Dt.len Dt.sz Dt.el Dt.snoc Dt.app Dt.app2 Dt.sub Dt.withEl Dt.zeros mkDoc mkVal mkRow mkRows mkStr mkInt mkByte mkBool mkPiece mkItem asDocs asVals asStrs asInts asRows Doc.cells Val.cells Row.cells Piece.cells Item.cells Doc.eta Val.eta calleeA callArgs calleeO opoL Le LeL LeO LeB LeV AV.under AV.underL Dt.docs.injEq Dt.vals.injEq Dt.rows.injEq Dt.rowss.injEq Dt.strs.injEq Dt.ints.injEq Dt.bytes.injEq Dt.bools.injEq Dt.pieces.injEq Dt.items.injEq eq_self retK retOK resA oneV thenQ blockQ loopQ cutQ retQ retOQ T1 ti1 T2 ti2 T3 ti3 T4 ti4 T5 ti5 T6 ti6 T7 ti7 T8 ti8 T9 ti9 T10 ti10 T11 ti11 T12 ti12 T13 ti13 T14 ti14 T15 ti15 T16 ti16 T17 ti17 T18 ti18 T19 ti19 T21 ti21 T22 ti22 T23 ti23 T24 ti24 T25 ti25 T26 ti26 T27 ti27 T28 ti28 T29 ti29 T30 ti30 T31 ti31 T32 ti32 T33 ti33 T34 ti34 T35 ti35 T36 ti36 T37 ti37 T39 ti39 T40 ti40 T41 ti41 T42 ti42 T43 ti43 T44 ti44 T45 ti45 T46 ti46 T47 ti47 T48 ti48 T49 ti49 T50 ti50 T51 ti51 T52 ti52 T53 ti53 T54 ti54 T55 ti55 T56 ti56 T57 ti57 T58 ti58 T59 ti59 T60 ti60 T61 ti61 T62 ti62 T63 ti63 T64 ti64 T65 ti65 T66 ti66 T67 ti67 T68 ti68 T70 ti70 T71 ti71 T72 ti72 T73 ti73 T74 ti74 T75 ti75 T76 ti76 T77 ti77 T78 ti78 T79 ti79 T83 ti83 T84 ti84 T85 ti85 T86 ti86 T87 ti87 T88 ti88 T90 ti90 T91 ti91 T92 ti92 T93 ti93 T97 ti97 T98 ti98 T99 ti99 T100 ti100 T101 ti101 T102 ti102 T103 ti103 T104 ti104 T105 ti105 T106 ti106 T107 ti107
attribute [local go_sem] toH toH1 frH frH1 idx backs imps bump conv handB pickO all_some all_none false_implies implies_true Bool.not_true Bool.not_false Bool.or_true Bool.true_or Bool.or_false Bool.false_or List.getD_cons_zero List.getD_cons_succ List.getD_nil List.set_cons_zero List.set_cons_succ List.length_cons List.length_nil List.nil_append List.cons_append List.append_nil List.all_cons List.all_nil List.map_cons List.map_nil Bool.and_self Bool.and_true Bool.true_and if_true if_false ite_true ite_false Option.bind_some Option.bind_none Option.map_some Option.map_none Option.getD_some Option.getD_none List.getElem?_cons_zero List.getElem?_cons_succ List.getElem?_nil List.drop_zero List.drop_succ_cons List.drop_nil List.take_succ_cons List.take_zero List.take_nil Bool.false_eq_true Bool.cond_true_left Bool.cond_false_right beq_self_eq_true decide_true decide_false and_true true_and and_self List.toList_toArray reduceCtorEq List.replicate startAS Int.toNat_natCast



theorem viss_get {d : Nat} : ∀ {xs : List Val} {i : Nat}, viss d xs = true → i < xs.length → vis d (xs.getD i default) = true
  | [], i, _, h => by simp at h
  | x :: xs, 0, h, _ => by simp only [viss, Bool.and_eq_true] at h; exact h.1
  | x :: xs, i + 1, h, hl => by simp only [viss, Bool.and_eq_true] at h; simp only [List.getD_cons_succ]; exact viss_get h.2 (by simpa using hl)
mutual
theorem vis_up : ∀ (d : Nat) (v : Val), vis d v = true → vis (d + 1) v = true
  | d, ⟨k, w, ks, cs⟩, h => by
      have ih := viss_up (d - 1) cs
      simp only [vis] at h ⊢
      by_cases hd : d = 0
      · rw [if_pos hd] at h; cases h
      · rw [if_neg hd] at h
        rw [if_neg (by omega), show d + 1 - 1 = d - 1 + 1 by omega]
        by_cases k1 : k = 1
        · rw [if_pos k1] at h ⊢; exact h
        · rw [if_neg k1] at h ⊢
          by_cases k2 : k = 2
          · rw [if_pos k2] at h ⊢
            simp only [Bool.and_eq_true] at h ⊢
            exact ⟨h.1, h.2.1, ih h.2.2.1, h.2.2.2⟩
          · rw [if_neg k2] at h ⊢
            by_cases k3 : k = 3
            · rw [if_pos k3] at h ⊢
              simp only [Bool.and_eq_true] at h ⊢
              exact ⟨h.1, h.2.1, h.2.2.1, ih h.2.2.2.1, h.2.2.2.2⟩
            · rw [if_neg k3] at h; cases h
theorem viss_up : ∀ (d : Nat) (vs : List Val), viss d vs = true → viss (d + 1) vs = true
  | d, [], _ => rfl
  | d, v :: vs, h => by
      simp only [viss, Bool.and_eq_true] at h ⊢
      exact ⟨vis_up d v h.1, viss_up d vs h.2⟩
end
theorem vcounts_get : ∀ {xs : List Val} {i : Nat}, i < xs.length → vcount (xs.getD i default) ≤ vcounts xs
  | [], i, h => by simp at h
  | x :: xs, 0, _ => by have := vcounts_nonneg xs; simp only [List.getD_cons_zero, vcounts]; omega
  | x :: xs, i + 1, h => by have := vcount_pos x; have := vcounts_get (xs := xs) (i := i) (by simpa using h); simp only [List.getD_cons_succ, vcounts]; omega
/-- A valid value, told by a Bool. -/
def vvalid (v : Val) : Bool := vis 4 v && decide (vcount v ≤ 12)
theorem vis_kids {v : Val} (h : vis 4 v = true) : viss 3 v.kids = true ∧ v.kids.length ≤ 8 := by
  rw [vis_eq] at h
  by_cases k1 : v.kind = 1
  · rw [if_neg (by omega), if_pos k1] at h
    simp only [Bool.and_eq_true, decide_eq_true_eq] at h
    have : v.kids = [] := List.eq_nil_of_length_eq_zero h.2.2
    rw [this]; exact ⟨rfl, by simp⟩
  · by_cases k2 : v.kind = 2
    · rw [if_neg (by omega), if_neg k1, if_pos k2] at h
      simp only [Bool.and_eq_true, decide_eq_true_eq] at h
      exact ⟨h.2.2.1, h.2.2.2⟩
    · by_cases k3 : v.kind = 3
      · rw [if_neg (by omega), if_neg k1, if_neg k2, if_pos k3] at h
        simp only [Bool.and_eq_true, decide_eq_true_eq] at h
        exact ⟨h.2.2.2.1, h.2.2.2.2⟩
      · rw [if_neg (by omega), if_neg k1, if_neg k2, if_neg k3] at h; cases h
theorem kid_valid {v : Val} (h : (vis 4 v && decide (vcount v ≤ 12)) = true) {i : Nat} (hi : i < v.kids.length) : (vis 4 (v.kids.getD i default) && decide (vcount (v.kids.getD i default) ≤ 12)) = true := by
  simp only [Bool.and_eq_true, decide_eq_true_eq] at h ⊢
  have h1 := vis_kids h.1
  have h2 := vcounts_get hi
  have h3 := vcount_eq v
  exact ⟨vis_up 3 _ (viss_get h1.1 hi), by omega⟩
theorem list_valid {v : Val} (h : (vis 4 v && decide (vcount v ≤ 12)) = true) : (vis 4 ⟨2, ⟨#[]⟩, [], v.kids⟩ && decide (vcount ⟨2, ⟨#[]⟩, [], v.kids⟩ ≤ 12)) = true := by
  simp only [Bool.and_eq_true, decide_eq_true_eq] at h ⊢
  have h1 := vis_kids h.1
  have h3 := vcount_eq v
  refine ⟨?_, by have : vcount ⟨2, ⟨#[]⟩, [], v.kids⟩ = 1 + vcounts v.kids := rfl; omega⟩
  rw [vis_eq]
  have e8 : decide (v.kids.length ≤ 8) = true := decide_eq_true h1.2
  show (if (4 : Nat) = 0 then false else if (2 : Int) = 1 then _ else if (2 : Int) = 2 then decide ((⟨#[]⟩ : ByteArray) = ⟨#[]⟩) && (decide (([] : List ByteArray).length = 0) && (viss 3 v.kids && decide (v.kids.length ≤ 8))) else _) = true
  rw [if_neg (by decide), if_neg (by decide), if_pos rfl, h1.1, e8]
  simp
theorem c_laws_FnValParts (bs : List Int) (hbs : ∀ b ∈ bs, 0 ≤ b ∧ b ≤ 255) : PC Try.prog 4 [.d (.bytes bs)] (fun r => r = bv true) := by
  refine PC.intro hT Try.func4 rfl (by decide) ?_
  intro F hF
  simp only [startAS, Try.f4, go_sem]
  refine AW.know fun hfit => ?_
  clear hfit
  refine AW.seq ?_
  refine AW.r hT ?_
  refine AW.seq ?_
  refine AW.seq ?_
  refine AW.r hT ?_
  refine AW.c (fun h => ?_) (fun h => ?_)
  · skip
    refine AW.seq ?_
    refine AW.r hT ?_
    refine AW.ret ?_
    simp only [go_sem, simprocAttr]
  · skip
    refine AW.skip ?_
    refine AW.seq ?_
    refine AW.region ?_
    refine AL.u hT ?_
    refine AL.c (c_spec_DrawValValid bs hbs) ?_
    rintro r ⟨v, rfl, hv⟩
    refine AL.e hT ?_
    refine AW.seq ?_
    refine AW.region ?_
    refine AL.u hT ?_
    refine AL.c (c_impl_ValValid v) ?_
    rintro r rfl
    refine AL.e hT ?_
    refine AW.seq ?_
    refine AW.seq ?_
    refine AW.region ?_
    refine AL.u hT ?_
    refine AL.c (c_spec_ValValid v) ?_
    rintro r rfl
    refine AL.e hT ?_
    refine AW.c (fun h => ?_) (fun h => ?_)
    · skip
      refine AW.seq ?_
      refine AW.region ?_
      refine AL.u hT ?_
      refine AL.c (c_spec_ValValid v) ?_
      rintro r rfl
      refine AL.e hT ?_
      refine AW.ret ?_
      simp only [go_sem, simprocAttr]
    · skip
      have hval : (vis 4 v && decide (vcount v ≤ 12)) = true := by
        simp only [Bool.and_eq_true, decide_eq_true_eq]; exact h.2
      refine AW.skip ?_
      refine AW.seq ?_
      refine AW.seq ?_
      refine AW.r hT ?_
      refine AW.know fun hfit => ?_
      simp only [go_sem, fitsL, fits, fitsO, Nat.reduceAdd] at hfit
      obtain ⟨_, _, _, _, _, hkl⟩ := hfit
      unfold maxLen at hkl
      refine AW.block ?_
      refine AW.loop (ι := Nat) (fun i => i ≤ v.kids.length) (fun i => ⟨List.replicate 3 .dead ++ [.ptr 0 0, bv true, iv .i64 i] ++ List.replicate 44 .dead, [.box 30 (v.cells.map .d)]⟩) (fun i => v.kids.length - i) 0 (Nat.zero_le _) (fun _ => by rw [hF]; first | exact Nat.zero_le _ | simp) ?_ ?_
      · simp only [go_sem, simprocAttr]
        all_goals (exact hval.symm)
      · intro i hi
        refine AW.seq ?_
        refine AW.seq ?_
        refine AW.r hT ?_
        refine AW.c (fun h => ?_) (fun h => ?_)
        · skip
          have hlt : i < v.kids.length := by omega
          refine AW.skip ?_
          refine AW.seq ?_
          refine AW.block ?_
          refine AW.seq ?_
          refine AW.region ?_
          refine AL.u hT ?_
          refine AL.c (c_impl_ValValid (v.kids.getD i default)) ?_
          rintro r rfl
          refine AL.e hT ?_
          refine AW.c (fun h => ?_) (fun h => ?_)
          · skip
            exact absurd h (by rw [kid_valid hval hlt]; simp)
          · skip
            refine AW.skip ?_
            refine AW.r hT ?_
            refine ⟨i + 1, by omega, (by show _ - (i + 1) < _ - i; omega), ?_⟩
            simp only [go_sem, simprocAttr]
            rw [wrapId (by omega) (by omega)]
            omega
        · skip
          refine AW.exit ?_
          simp only [go_sem, simprocAttr]
          refine AW.seq ?_
          refine AW.r hT ?_
          simp only [go_sem, simprocAttr]
          refine AW.wkB 1 [iv .i64 2, sv ⟨#[]⟩, .d (.strs []), .d (.vals v.kids)] ?_
          refine AW.seq ?_
          refine AW.region ?_
          refine AL.u hT ?_
          refine AL.cF hT (fun hG => c_impl_ValValid ⟨2, ⟨#[]⟩, [], v.kids⟩) ?_
          simp only [go_sem, simprocAttr]
          refine AL.e hT ?_
          refine AW.ret ?_
          simp only [go_sem, simprocAttr]
          rw [list_valid hval]
          cases decide (v.kind = 1) <;> rfl

end Go.Proofs.Ytlhfjjkoflpecaa

