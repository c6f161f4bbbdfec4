import Derived.Test.YtlhfjjkoflpecaaV3
namespace Go.Proofs.Ytlhfjjkoflpecaa
open Go.Proofs.YtlhfjjkoflpecaaAw Go.RowKit
set_option linter.unusedVariables false
set_option linter.unusedSimpArgs false
set_option maxRecDepth 20000
set_option maxHeartbeats 2000000
attribute [local go_sem] runL stepL runQ stepQ isStop AV.closed AV.closedL clo guardB isCall objOp pureOp ops opo opv cellsOf leafB putT constAV fitC loadA cut storeA storeR splice fieldA indexA lenA slOf slOfD binA binI binS binB binG unA pickA convA nilCheckA extractA sliceA sliceD natA toP sliceStr indexStr szB buildSliceA partsA inOrder freezeL freeze1 freezeV freezeVs appendA makeA minA buildA fieldsA verOf dtAt Ob.ver Ob.dt Dt.isSl Dt.len Dt.sz Dt.el Dt.snoc Dt.app Dt.app2 Dt.sub Dt.withEl Dt.zeros mkDoc mkVal mkRow mkRows mkStr mkInt mkByte mkBool mkPiece mkItem asDocs asVals asStrs asInts asRows Doc.cells Val.cells Row.cells Piece.cells Item.cells Doc.eta Val.eta calleeA callArgs calleeO opoL Le LeL LeO LeB LeV AV.under AV.underL Dt.docs.injEq Dt.vals.injEq Dt.rows.injEq Dt.rowss.injEq Dt.strs.injEq Dt.ints.injEq Dt.bytes.injEq Dt.bools.injEq Dt.pieces.injEq Dt.items.injEq eq_self retK retOK resA oneV thenQ blockQ loopQ cutQ retQ retOQ T1 ti1 T2 ti2 T3 ti3 T4 ti4 T5 ti5 T6 ti6 T7 ti7 T8 ti8 T9 ti9 T10 ti10 T11 ti11 T12 ti12 T13 ti13 T14 ti14 T15 ti15 T16 ti16 T17 ti17 T18 ti18 T19 ti19 T21 ti21 T22 ti22 T23 ti23 T24 ti24 T25 ti25 T26 ti26 T27 ti27 T28 ti28 T29 ti29 T30 ti30 T31 ti31 T32 ti32 T33 ti33 T34 ti34 T35 ti35 T36 ti36 T37 ti37 T39 ti39 T40 ti40 T41 ti41 T42 ti42 T43 ti43 T44 ti44 T45 ti45 T46 ti46 T47 ti47 T48 ti48 T49 ti49 T50 ti50 T51 ti51 T52 ti52 T53 ti53 T54 ti54 T55 ti55 T56 ti56 T57 ti57 T58 ti58 T59 ti59 T60 ti60 T61 ti61 T62 ti62 T63 ti63 T64 ti64 T65 ti65 T66 ti66 T67 ti67 T68 ti68 T70 ti70 T71 ti71 T72 ti72 T73 ti73 T74 ti74 T75 ti75 T76 ti76 T77 ti77 T78 ti78 T79 ti79 T83 ti83 T84 ti84 T85 ti85 T86 ti86 T87 ti87 T88 ti88 T90 ti90 T91 ti91 T92 ti92 T93 ti93 T97 ti97 T98 ti98 T99 ti99 T100 ti100 T101 ti101 T102 ti102 T103 ti103 T104 ti104 T105 ti105 T106 ti106 T107 ti107
attribute [local go_sem] runV AV.avoid AV.avoidL toH toH1 frH frH1 idx backs imps bump conv handB pickO all_some all_none false_implies implies_true Bool.not_true Bool.not_false Bool.or_true Bool.true_or Bool.or_false Bool.false_or List.getD_cons_zero List.getD_cons_succ List.getD_nil List.set_cons_zero List.set_cons_succ List.length_cons List.length_nil List.nil_append List.cons_append List.append_nil List.all_cons List.all_nil List.map_cons List.map_nil Bool.and_self Bool.and_true Bool.true_and if_true if_false ite_true ite_false Option.bind_some Option.bind_none Option.map_some Option.map_none Option.getD_some Option.getD_none List.getElem?_cons_zero List.getElem?_cons_succ List.getElem?_nil List.drop_zero List.drop_succ_cons List.drop_nil List.take_succ_cons List.take_zero List.take_nil Bool.false_eq_true Bool.cond_true_left Bool.cond_false_right beq_self_eq_true decide_true decide_false and_true true_and and_self List.toList_toArray reduceCtorEq List.replicate startAS Int.toNat_natCast



theorem c_laws_FnExactFormatVal (v : Val) : PC Try.prog 7 [.agg (v.cells.map .d)] (fun r => r = bv true) := by
  refine PC.intro hT Try.func7 rfl (by decide) ?_
  intro F hF
  simp only [startAS, Try.f7, go_sem]
  refine AW.seq ?_
  refine AW.r hT ?_
  refine AW.seq ?_
  refine AW.r hT ?_
  refine AW.seq ?_
  refine AW.region ?_
  refine AL.u hT ?_
  refine AL.c (c_laws_szVal v 1048576 (by omega) (by omega)) ?_
  rintro r ⟨n1, rfl, hn1, hn2⟩
  refine AL.e hT ?_
  refine AW.seq ?_
  refine AW.seq ?_
  refine AW.r hT ?_
  refine AW.c (fun h => ?_) (fun h => ?_)
  · skip
    refine AW.seq ?_
    refine AW.r hT ?_
    refine AW.ret ?_
    simp only [go_sem, simprocAttr]
  · skip
    have hA := hn2 (by omega)
    have hA0 := vsz_nonneg v
    refine AW.skip ?_
    refine AW.seq ?_
    refine AW.region ?_
    refine AL.u hT ?_
    refine AL.c (c_laws_toVal v (by omega)) ?_
    rintro r rfl
    refine AL.c (c_spec_FormatVal v) ?_
    rintro r rfl
    refine AL.e hT ?_
    refine AW.seq ?_
    refine AW.region ?_
    refine AL.u hT ?_
    refine AL.c (c_laws_toVal v (by omega)) ?_
    rintro r rfl
    refine AL.e hT ?_
    refine AW.seq ?_
    refine AW.region ?_
    refine AL.u hT ?_
    refine AL.c (c_impl_FormatVal v) ?_
    rintro r rfl
    refine AL.e hT ?_
    refine AW.seq ?_
    refine AW.seq ?_
    refine AW.r hT ?_
    refine AW.c (fun h => ?_) (fun h => ?_)
    · skip
      exact absurd h (by simp)
    · skip
      refine AW.skip ?_
      refine AW.seq ?_
      refine AW.seq ?_
      refine AW.draw hT 3 (by decide) ?_
      simp only [go_sem, simprocAttr]
      refine DL.u ?_
      refine DL.c (c_laws_toVal v (by omega)) ?_
      simp only [go_sem, simprocAttr]
      refine DL.e ?_
      refine AL.c (c_laws_eqVal v v) ?_
      rintro r rfl
      refine AL.e hT ?_
      refine AW.c (fun h => ?_) (fun h => ?_)
      · skip
        exact absurd h (by simp [veq_same])
      · skip
        refine AW.skip ?_
        refine AW.seq ?_
        refine AW.r hT ?_
        refine AW.ret ?_
        simp only [go_sem, simprocAttr]
end Go.Proofs.Ytlhfjjkoflpecaa

