import Derived.Test.YtkcienioaodnbaaR2
namespace Go.Proofs.Ytkcienioaodnbaa
open Go.Proofs.YtkcienioaodnbaaAw Go.RowKit
set_option linter.unusedVariables false
set_option linter.unusedSimpArgs false
set_option maxRecDepth 20000
set_option maxHeartbeats 2000000
attribute [local go_sem] runL stepL runQ stepQ isStop AV.closed AV.closedL clo guardB isCall objOp pureOp ops opo opv cellsOf leafB putT constAV fitC loadA cut storeA storeR splice fieldA indexA lenA slOf slOfD binA binI binS binB binG unA pickA convA nilCheckA extractA sliceA sliceD natA toP sliceStr indexStr szB buildSliceA partsA inOrder freezeL freeze1 freezeV freezeVs appendA makeA minA buildA fieldsA verOf dtAt Ob.ver Ob.dt Dt.isSl Dt.len Dt.sz Dt.el Dt.snoc Dt.app Dt.app2 Dt.sub Dt.withEl Dt.zeros mkDoc mkVal mkRow mkRows mkStr mkInt mkByte mkBool mkPiece mkItem asDocs asVals asStrs asInts asRows Doc.cells Val.cells Row.cells Piece.cells Item.cells Doc.eta Val.eta calleeA callArgs calleeO opoL Le LeL LeO LeB LeV AV.under AV.underL Dt.docs.injEq Dt.vals.injEq Dt.rows.injEq Dt.rowss.injEq Dt.strs.injEq Dt.ints.injEq Dt.bytes.injEq Dt.bools.injEq Dt.pieces.injEq Dt.items.injEq eq_self retK retOK resA oneV thenQ blockQ loopQ cutQ retQ retOQ T1 ti1 T2 ti2 T3 ti3 T4 ti4 T5 ti5 T6 ti6 T7 ti7 T8 ti8 T9 ti9 T10 ti10 T11 ti11 T12 ti12 T13 ti13 T14 ti14 T15 ti15 T16 ti16 T17 ti17 T18 ti18 T19 ti19 T21 ti21 T22 ti22 T23 ti23 T24 ti24 T26 ti26 T27 ti27 T28 ti28 T29 ti29 T30 ti30 T31 ti31 T32 ti32 T33 ti33 T34 ti34 T35 ti35 T36 ti36 T37 ti37 T38 ti38 T39 ti39 T40 ti40 T41 ti41 T42 ti42 T44 ti44 T45 ti45 T46 ti46 T47 ti47 T48 ti48 T49 ti49 T50 ti50 T51 ti51 T52 ti52 T53 ti53 T54 ti54 T55 ti55 T56 ti56 T57 ti57 T58 ti58 T59 ti59 T60 ti60 T61 ti61 T62 ti62 T63 ti63 T64 ti64 T65 ti65 T66 ti66 T67 ti67 T68 ti68 T69 ti69 T70 ti70 T71 ti71 T72 ti72 T73 ti73 T74 ti74 T75 ti75 T76 ti76 T77 ti77 T78 ti78 T79 ti79 T80 ti80 T81 ti81 T82 ti82 T83 ti83 T84 ti84 T85 ti85 T86 ti86 T87 ti87 T88 ti88 T89 ti89 T90 ti90 T91 ti91 T92 ti92 T93 ti93 T94 ti94 T95 ti95 T96 ti96 T97 ti97 T98 ti98 T99 ti99 T100 ti100 T101 ti101 T102 ti102 T103 ti103 T104 ti104 T105 ti105 T106 ti106 T107 ti107 T108 ti108 T109 ti109 T110 ti110 T111 ti111 T112 ti112 T113 ti113 T114 ti114 T115 ti115 T116 ti116 T118 ti118 T119 ti119 T121 ti121 T122 ti122 T123 ti123 T124 ti124 T125 ti125 T126 ti126 T127 ti127 T131 ti131 T132 ti132 T133 ti133 T134 ti134 T135 ti135 T136 ti136 T137 ti137 T138 ti138 T139 ti139 T140 ti140 T120 ti120
attribute [local go_sem] runV AV.avoid AV.avoidL toH toH1 frH frH1 idx backs imps bump conv handB pickO all_some all_none false_implies implies_true Bool.not_true Bool.not_false Bool.or_true Bool.true_or Bool.or_false Bool.false_or List.getD_cons_zero List.getD_cons_succ List.getD_nil List.set_cons_zero List.set_cons_succ List.length_cons List.length_nil List.nil_append List.cons_append List.append_nil List.all_cons List.all_nil List.map_cons List.map_nil Bool.and_self Bool.and_true Bool.true_and if_true if_false ite_true ite_false Option.bind_some Option.bind_none Option.map_some Option.map_none Option.getD_some Option.getD_none List.getElem?_cons_zero List.getElem?_cons_succ List.getElem?_nil List.drop_zero List.drop_succ_cons List.drop_nil List.take_succ_cons List.take_zero List.take_nil Bool.false_eq_true Bool.cond_true_left Bool.cond_false_right beq_self_eq_true decide_true decide_false and_true true_and and_self List.toList_toArray reduceCtorEq List.replicate startAS Int.toNat_natCast



instance : DecidableEq Row := fun a b => decidable_of_iff (a.indent = b.indent ∧ a.text = b.text) (by cases a; cases b; simp)
theorem dvalid_dis {v : Doc} (h : dvalid v = true) : dis 40 v = true ∧ dtot v ≤ 1120 ∧ dcount v ≤ 80 := by
  unfold dvalid at h
  simp only [Bool.and_eq_true, decide_eq_true_eq] at h
  have := dtot_count 40 v h.1
  exact ⟨h.1, by omega, h.2⟩
theorem and_l {x y : Bool} (h : (x && y) = true) : x = true := by simp only [Bool.and_eq_true] at h; exact h.1
theorem and_r {x y : Bool} (h : (x && y) = true) : y = true := by simp only [Bool.and_eq_true] at h; exact h.2
theorem row_ext {a b : Row} (h1 : a.indent = b.indent) (h2 : a.text = b.text) : a = b := by cases a; cases b; simp_all
def sameOpen (a b : Doc) : Bool := dvalid a && dvalid b && decide (lopen a = lopen b)
theorem c_spec_LayoutSame (a b : List Row) : PC Try.prog 64 [.d (.rows a), .d (.rows b)] (fun r => r = bv (decide (a = b))) := by
  refine PC.intro hT Try.func64 rfl (by decide) ?_
  intro F hF
  simp only [startAS, Try.f64, go_sem]
  refine AW.know fun hfit => ?_
  have hlen : a.length ≤ maxLen := hfit.1
  unfold maxLen at hlen
  clear hfit
  refine AW.seq ?_
  refine AW.r hT ?_
  refine AW.seq ?_
  refine AW.seq ?_
  refine AW.r hT ?_
  refine AW.c (fun h => ?_) (fun h => ?_)
  · skip
    refine AW.seq ?_
    refine AW.r hT ?_
    refine AW.ret ?_
    simp only [go_sem, simprocAttr]
    rw [decide_eq_false (fun e => h (by rw [e]))]
  · skip
    have hl : a.length = b.length := by omega
    refine AW.skip ?_
    refine AW.seq ?_
    refine AW.seq ?_
    refine AW.r hT ?_
    refine AW.block ?_
    refine AW.loop (ι := Nat) (fun i => i ≤ a.length ∧ a.take i = b.take i) (fun i => ⟨[.d (.rows a), .d (.rows b), .dead, .dead, .dead, iv .i64 i] ++ List.replicate 20 .dead, []⟩) (fun i => a.length - i) 0 ⟨Nat.zero_le _, by simp⟩ (fun _ => by rw [hF]; first | exact Nat.zero_le _ | simp) ?_ ?_
    · simp only [go_sem, simprocAttr]
      all_goals (rfl)
    · intro i hi
      have hi1 := hi.1
      refine AW.seq ?_
      refine AW.seq ?_
      refine AW.r hT ?_
      refine AW.c (fun h => ?_) (fun h => ?_)
      · skip
        have hlt : i < a.length := by omega
        refine AW.skip ?_
        refine AW.seq ?_
        refine AW.block ?_
        refine AW.seq ?_
        refine AW.draw hT 8 (by decide) ?_
        simp only [go_sem, simprocAttr]
        refine DL.e ?_
        refine AL.e hT ?_
        refine AW.c (fun h => ?_) (fun h => ?_)
        · skip
          refine AW.seq ?_
          refine AW.r hT ?_
          refine AW.ret ?_
          simp only [go_sem, simprocAttr]
          rw [decide_eq_false (fun e => by subst e; simp at h)]
        · skip
          refine AW.skip ?_
          refine AW.r hT ?_
          refine ⟨i + 1, ⟨by omega, (take_eq_succ _ hl hlt).2 ⟨hi.2, row_ext h.1 h.2⟩⟩, (by show _ - (i + 1) < _ - i; omega), ?_⟩
          simp only [go_sem, simprocAttr]
          rw [wrapId (by omega) (by omega)]
          omega
      · skip
        have e := eq_of_take (by omega) hl hi.2
        refine AW.exit ?_
        simp only [go_sem, simprocAttr]
        refine AW.seq ?_
        refine AW.r hT ?_
        refine AW.ret ?_
        simp only [go_sem, simprocAttr]
        rw [decide_eq_true e]
theorem c_equal_rows (a b : List Row) : PC Try.prog 111 [.d (.rows a), .d (.rows b)] (fun r => r = bv (decide (a = b))) := by
  refine PC.intro hT Try.func111 rfl (by decide) ?_
  intro F hF
  simp only [startAS, Try.f111, go_sem]
  refine AW.know fun hfit => ?_
  have hlen : a.length ≤ maxLen := hfit.1
  unfold maxLen at hlen
  clear hfit
  refine AW.seq ?_
  refine AW.r hT ?_
  refine AW.seq ?_
  refine AW.seq ?_
  refine AW.r hT ?_
  refine AW.c (fun h => ?_) (fun h => ?_)
  · skip
    refine AW.seq ?_
    refine AW.r hT ?_
    refine AW.ret ?_
    simp only [go_sem, simprocAttr]
    rw [decide_eq_false (fun e => h (by rw [e]))]
  · skip
    have hl : a.length = b.length := by omega
    refine AW.skip ?_
    refine AW.seq ?_
    refine AW.seq ?_
    refine AW.r hT ?_
    refine AW.block ?_
    refine AW.loop (ι := Nat) (fun i => i ≤ a.length ∧ a.take i = b.take i) (fun i => ⟨[.d (.rows a), .d (.rows b)] ++ List.replicate 10 .dead ++ [iv .i64 a.length, iv .i64 i] ++ List.replicate 12 .dead, []⟩) (fun i => a.length - i) 0 ⟨Nat.zero_le _, by simp⟩ (fun _ => by rw [hF]; first | exact Nat.zero_le _ | simp) ?_ ?_
    · simp only [go_sem, simprocAttr]
      all_goals (rfl)
    · intro i hi
      have hi1 := hi.1
      refine AW.seq ?_
      refine AW.r hT ?_
      refine AW.seq ?_
      refine AW.c (fun h => ?_) (fun h => ?_)
      · skip
        have hlt : i < a.length := by omega
        refine AW.skip ?_
        refine AW.seq ?_
        refine AW.block ?_
        refine AW.seq ?_
        refine AW.r hT ?_
        refine AW.seq ?_
        refine AW.draw hT 8 (by decide) ?_
        simp only [go_sem, simprocAttr]
        refine DL.e ?_
        refine AL.e hT ?_
        refine AW.c (fun h => ?_) (fun h => ?_)
        · skip
          refine AW.seq ?_
          refine AW.r hT ?_
          refine AW.ret ?_
          simp only [go_sem, simprocAttr]
          rw [decide_eq_false (fun e => by subst e; simp at h)]
        · skip
          refine AW.skip ?_
          refine AW.r hT ?_
          refine ⟨i + 1, ⟨by omega, (take_eq_succ _ hl hlt).2 ⟨hi.2, row_ext h.1 h.2⟩⟩, (by show _ - (i + 1) < _ - i; omega), ?_⟩
          simp only [go_sem, simprocAttr]
          rw [wrapId (by omega) (by omega)]
          omega
      · skip
        have e := eq_of_take (by omega) hl hi.2
        refine AW.exit ?_
        simp only [go_sem, simprocAttr]
        refine AW.seq ?_
        refine AW.r hT ?_
        refine AW.ret ?_
        simp only [go_sem, simprocAttr]
        rw [decide_eq_true e]
theorem c_impl_LayoutSame (a b : List Row) : PC Try.prog 67 [.d (.rows a), .d (.rows b)] (fun r => r = bv (decide (a = b))) := by
  refine PC.intro hT Try.func67 rfl (by decide) ?_
  intro F hF
  simp only [startAS, Try.f67, go_sem]
  refine AW.seq ?_
  refine AW.r hT ?_
  refine AW.seq ?_
  refine AW.region ?_
  refine AL.u hT ?_
  refine AL.c (c_equal_rows a b) ?_
  rintro r rfl
  refine AL.e hT ?_
  refine AW.ret ?_
  simp only [go_sem, simprocAttr]
theorem c_spec_SameOpen (a b : Doc) : PC Try.prog 20 [.agg (a.cells.map .d), .agg (b.cells.map .d)] (fun r => r = bv (sameOpen a b)) := by
  refine PC.intro hT Try.func20 rfl (by decide) ?_
  intro F hF
  simp only [startAS, Try.f20, go_sem]
  refine AW.seq ?_
  refine AW.r hT ?_
  refine AW.seq ?_
  refine AW.draw hT 10 (by decide) ?_
  simp only [go_sem, simprocAttr]
  refine DL.u ?_
  refine DL.c (c_spec_DocValid a) ?_
  simp only [go_sem, simprocAttr]
  refine DL.u ?_
  refine DL.cG (fun hG => c_spec_DocValid b) ?_
  simp only [go_sem, simprocAttr]
  refine DL.u ?_
  refine DL.cG (fun hG => c_spec_l2Open a 40 (by omega) (dvalid_dis (and_l hG)).1 (by have := (dvalid_dis (and_l hG)).2; omega)) ?_
  simp only [go_sem, simprocAttr]
  refine DL.e ?_
  refine AL.cF hT (fun hG => c_spec_l2Open b 40 (by omega) (dvalid_dis (and_r hG)).1 (by have := (dvalid_dis (and_r hG)).2; omega)) ?_
  simp only [go_sem, simprocAttr]
  refine AL.cF hT (fun hG => c_spec_LayoutSame (lopen a) (lopen b)) ?_
  simp only [go_sem, simprocAttr]
  refine AL.e hT ?_
  refine AW.ret ?_
  simp only [go_sem, simprocAttr]
  rfl
theorem c_impl_SameOpen (a b : Doc) : PC Try.prog 22 [.agg (a.cells.map .d), .agg (b.cells.map .d)] (fun r => r = bv (sameOpen a b)) := by
  refine PC.intro hT Try.func22 rfl (by decide) ?_
  intro F hF
  simp only [startAS, Try.f22, go_sem]
  refine AW.seq ?_
  refine AW.r hT ?_
  refine AW.seq ?_
  refine AW.draw hT 10 (by decide) ?_
  simp only [go_sem, simprocAttr]
  refine DL.u ?_
  refine DL.c (c_impl_DocValid a) ?_
  simp only [go_sem, simprocAttr]
  refine DL.u ?_
  refine DL.cG (fun hG => c_impl_DocValid b) ?_
  simp only [go_sem, simprocAttr]
  refine DL.u ?_
  refine DL.cG (fun hG => c_impl_openRows a 40 (by omega) (dvalid_dis (and_l hG)).1 (by have := (dvalid_dis (and_l hG)).2; omega)) ?_
  simp only [go_sem, simprocAttr]
  refine DL.e ?_
  refine AL.cF hT (fun hG => c_impl_openRows b 40 (by omega) (dvalid_dis (and_r hG)).1 (by have := (dvalid_dis (and_r hG)).2; omega)) ?_
  simp only [go_sem, simprocAttr]
  refine AL.cF hT (fun hG => c_impl_LayoutSame (lopen a) (lopen b)) ?_
  simp only [go_sem, simprocAttr]
  refine AL.e hT ?_
  refine AW.ret ?_
  simp only [go_sem, simprocAttr]
  rfl

end Go.Proofs.Ytkcienioaodnbaa

