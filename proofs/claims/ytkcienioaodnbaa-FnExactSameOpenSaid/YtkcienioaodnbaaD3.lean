import Derived.Test.YtkcienioaodnbaaD2
namespace Go.Proofs.Ytkcienioaodnbaa
open Go.Proofs.YtkcienioaodnbaaAw Go.RowKit
set_option linter.unusedVariables false
set_option linter.unusedSimpArgs false
set_option maxRecDepth 20000
set_option maxHeartbeats 2000000
attribute [local go_sem] runL stepL runQ stepQ isStop AV.closed AV.closedL clo guardB isCall objOp pureOp ops opo opv cellsOf leafB putT constAV fitC loadA cut storeA storeR splice fieldA indexA lenA slOf slOfD binA binI binS binB binG unA pickA convA nilCheckA extractA sliceA sliceD natA toP sliceStr indexStr szB buildSliceA partsA inOrder freezeL freeze1 freezeV freezeVs appendA makeA minA buildA fieldsA verOf dtAt Ob.ver Ob.dt Dt.isSl Dt.len Dt.sz Dt.el Dt.snoc Dt.app Dt.app2 Dt.sub Dt.withEl Dt.zeros mkDoc mkVal mkRow mkRows mkStr mkInt mkByte mkBool mkPiece mkItem asDocs asVals asStrs asInts asRows Doc.cells Val.cells Row.cells Piece.cells Item.cells Doc.eta Val.eta calleeA callArgs calleeO opoL Le LeL LeO LeB LeV AV.under AV.underL Dt.docs.injEq Dt.vals.injEq Dt.rows.injEq Dt.rowss.injEq Dt.strs.injEq Dt.ints.injEq Dt.bytes.injEq Dt.bools.injEq Dt.pieces.injEq Dt.items.injEq eq_self retK retOK resA oneV thenQ blockQ loopQ cutQ retQ retOQ T1 ti1 T2 ti2 T3 ti3 T4 ti4 T5 ti5 T6 ti6 T7 ti7 T8 ti8 T9 ti9 T10 ti10 T11 ti11 T12 ti12 T13 ti13 T14 ti14 T15 ti15 T16 ti16 T17 ti17 T18 ti18 T19 ti19 T21 ti21 T22 ti22 T23 ti23 T24 ti24 T26 ti26 T27 ti27 T28 ti28 T29 ti29 T30 ti30 T31 ti31 T32 ti32 T33 ti33 T34 ti34 T35 ti35 T36 ti36 T37 ti37 T38 ti38 T39 ti39 T40 ti40 T41 ti41 T42 ti42 T44 ti44 T45 ti45 T46 ti46 T47 ti47 T48 ti48 T49 ti49 T50 ti50 T51 ti51 T52 ti52 T53 ti53 T54 ti54 T55 ti55 T56 ti56 T57 ti57 T58 ti58 T59 ti59 T60 ti60 T61 ti61 T62 ti62 T63 ti63 T64 ti64 T65 ti65 T66 ti66 T67 ti67 T68 ti68 T69 ti69 T70 ti70 T71 ti71 T72 ti72 T73 ti73 T74 ti74 T75 ti75 T76 ti76 T77 ti77 T78 ti78 T79 ti79 T80 ti80 T81 ti81 T82 ti82 T83 ti83 T84 ti84 T85 ti85 T86 ti86 T87 ti87 T88 ti88 T89 ti89 T90 ti90 T91 ti91 T92 ti92 T93 ti93 T94 ti94 T95 ti95 T96 ti96 T97 ti97 T98 ti98 T99 ti99 T100 ti100 T101 ti101 T102 ti102 T103 ti103 T104 ti104 T105 ti105 T106 ti106 T107 ti107 T108 ti108 T109 ti109 T110 ti110 T111 ti111 T112 ti112 T113 ti113 T114 ti114 T115 ti115 T116 ti116 T118 ti118 T119 ti119 T121 ti121 T122 ti122 T123 ti123 T124 ti124 T125 ti125 T126 ti126 T127 ti127 T131 ti131 T132 ti132 T133 ti133 T134 ti134 T135 ti135 T136 ti136 T137 ti137 T138 ti138 T139 ti139 T140 ti140 T120 ti120
attribute [local go_sem] runV AV.avoid AV.avoidL toH toH1 frH frH1 idx backs imps bump conv handB pickO all_some all_none false_implies implies_true Bool.not_true Bool.not_false Bool.or_true Bool.true_or Bool.or_false Bool.false_or List.getD_cons_zero List.getD_cons_succ List.getD_nil List.set_cons_zero List.set_cons_succ List.length_cons List.length_nil List.nil_append List.cons_append List.append_nil List.all_cons List.all_nil List.map_cons List.map_nil Bool.and_self Bool.and_true Bool.true_and if_true if_false ite_true ite_false Option.bind_some Option.bind_none Option.map_some Option.map_none Option.getD_some Option.getD_none List.getElem?_cons_zero List.getElem?_cons_succ List.getElem?_nil List.drop_zero List.drop_succ_cons List.drop_nil List.take_succ_cons List.take_zero List.take_nil Bool.false_eq_true Bool.cond_true_left Bool.cond_false_right beq_self_eq_true decide_true decide_false and_true true_and and_self List.toList_toArray reduceCtorEq List.replicate startAS Int.toNat_natCast



theorem c_spec_l1Kids (op : Int) : PC Try.prog 123 [iv .i64 op] (fun r => r = iv .i64 (if op < 1 ∨ op > 8 then -1 else (kn op : Int))) := by
  refine PC.intro hT Try.func123 rfl (by decide) ?_
  intro F hF
  simp only [startAS, Try.f123, go_sem]
  refine AW.seq ?_
  refine AW.r hT ?_
  refine AW.seq ?_
  refine AW.seq ?_
  refine AW.r hT ?_
  refine AW.block ?_
  refine AW.seq ?_
  refine AW.seq ?_
  refine AW.r hT ?_
  refine AW.c (fun h => ?_) (fun h => ?_)
  · skip
    refine AW.skip ?_
    refine AW.c (fun h => ?_) (fun h => ?_)
    · skip
      refine AW.seq ?_
      refine AW.r hT ?_
      refine AW.ret ?_
      simp only [go_sem, simprocAttr]
      rw [if_neg (by omega), show kn op = 0 from by unfold kn; rw [if_neg (by omega), if_neg (by omega)]]; rfl
    · skip
      refine AW.seq ?_
      refine AW.seq ?_
      refine AW.r hT ?_
      refine AW.c (fun h => ?_) (fun h => ?_)
      · skip
        refine AW.skip ?_
        refine AW.c (fun h => ?_) (fun h => ?_)
        · skip
          refine AW.seq ?_
          refine AW.r hT ?_
          refine AW.ret ?_
          simp only [go_sem, simprocAttr]
          rw [if_neg (by omega), show kn op = 1 from by unfold kn; rw [if_pos (by omega)]]; rfl
        · skip
          refine AW.seq ?_
          refine AW.r hT ?_
          refine AW.c (fun h => ?_) (fun h => ?_)
          · skip
            refine AW.seq ?_
            refine AW.r hT ?_
            refine AW.ret ?_
            simp only [go_sem, simprocAttr]
            rw [if_neg (by omega), show kn op = 2 from by unfold kn; rw [if_neg (by omega), if_pos (by omega)]]; rfl
          · skip
            refine AW.skip ?_
            refine AW.seq ?_
            refine AW.r hT ?_
            refine AW.ret ?_
            simp only [go_sem, simprocAttr]
            rw [if_pos (by omega)]
      · skip
        refine AW.r hT ?_
        refine AW.c (fun h => ?_) (fun h => ?_)
        · skip
          refine AW.seq ?_
          refine AW.r hT ?_
          refine AW.ret ?_
          simp only [go_sem, simprocAttr]
          rw [if_neg (by omega), show kn op = 1 from by unfold kn; rw [if_pos (by omega)]]; rfl
        · skip
          refine AW.seq ?_
          refine AW.r hT ?_
          refine AW.c (fun h => ?_) (fun h => ?_)
          · skip
            refine AW.seq ?_
            refine AW.r hT ?_
            refine AW.ret ?_
            simp only [go_sem, simprocAttr]
            rw [if_neg (by omega), show kn op = 2 from by unfold kn; rw [if_neg (by omega), if_pos (by omega)]]; rfl
          · skip
            refine AW.skip ?_
            refine AW.seq ?_
            refine AW.r hT ?_
            refine AW.ret ?_
            simp only [go_sem, simprocAttr]
            rw [if_pos (by omega)]
  · skip
    refine AW.seq ?_
    refine AW.r hT ?_
    refine AW.c (fun h => ?_) (fun h => ?_)
    · skip
      refine AW.skip ?_
      refine AW.c (fun h => ?_) (fun h => ?_)
      · skip
        refine AW.seq ?_
        refine AW.r hT ?_
        refine AW.ret ?_
        simp only [go_sem, simprocAttr]
        rw [if_neg (by omega), show kn op = 0 from by unfold kn; rw [if_neg (by omega), if_neg (by omega)]]; rfl
      · skip
        refine AW.seq ?_
        refine AW.seq ?_
        refine AW.r hT ?_
        refine AW.c (fun h => ?_) (fun h => ?_)
        · skip
          refine AW.skip ?_
          refine AW.c (fun h => ?_) (fun h => ?_)
          · skip
            refine AW.seq ?_
            refine AW.r hT ?_
            refine AW.ret ?_
            simp only [go_sem, simprocAttr]
            rw [if_neg (by omega), show kn op = 1 from by unfold kn; rw [if_pos (by omega)]]; rfl
          · skip
            refine AW.seq ?_
            refine AW.r hT ?_
            refine AW.c (fun h => ?_) (fun h => ?_)
            · skip
              refine AW.seq ?_
              refine AW.r hT ?_
              refine AW.ret ?_
              simp only [go_sem, simprocAttr]
              rw [if_neg (by omega), show kn op = 2 from by unfold kn; rw [if_neg (by omega), if_pos (by omega)]]; rfl
            · skip
              refine AW.skip ?_
              refine AW.seq ?_
              refine AW.r hT ?_
              refine AW.ret ?_
              simp only [go_sem, simprocAttr]
              rw [if_pos (by omega)]
        · skip
          refine AW.r hT ?_
          refine AW.c (fun h => ?_) (fun h => ?_)
          · skip
            refine AW.seq ?_
            refine AW.r hT ?_
            refine AW.ret ?_
            simp only [go_sem, simprocAttr]
            rw [if_neg (by omega), show kn op = 1 from by unfold kn; rw [if_pos (by omega)]]; rfl
          · skip
            refine AW.seq ?_
            refine AW.r hT ?_
            refine AW.c (fun h => ?_) (fun h => ?_)
            · skip
              refine AW.seq ?_
              refine AW.r hT ?_
              refine AW.ret ?_
              simp only [go_sem, simprocAttr]
              rw [if_neg (by omega), show kn op = 2 from by unfold kn; rw [if_neg (by omega), if_pos (by omega)]]; rfl
            · skip
              refine AW.skip ?_
              refine AW.seq ?_
              refine AW.r hT ?_
              refine AW.ret ?_
              simp only [go_sem, simprocAttr]
              rw [if_pos (by omega)]
    · skip
      refine AW.seq ?_
      refine AW.r hT ?_
      refine AW.c (fun h => ?_) (fun h => ?_)
      · skip
        refine AW.skip ?_
        refine AW.c (fun h => ?_) (fun h => ?_)
        · skip
          refine AW.seq ?_
          refine AW.r hT ?_
          refine AW.ret ?_
          simp only [go_sem, simprocAttr]
          rw [if_neg (by omega), show kn op = 0 from by unfold kn; rw [if_neg (by omega), if_neg (by omega)]]; rfl
        · skip
          refine AW.seq ?_
          refine AW.seq ?_
          refine AW.r hT ?_
          refine AW.c (fun h => ?_) (fun h => ?_)
          · skip
            refine AW.skip ?_
            refine AW.c (fun h => ?_) (fun h => ?_)
            · skip
              refine AW.seq ?_
              refine AW.r hT ?_
              refine AW.ret ?_
              simp only [go_sem, simprocAttr]
              rw [if_neg (by omega), show kn op = 1 from by unfold kn; rw [if_pos (by omega)]]; rfl
            · skip
              refine AW.seq ?_
              refine AW.r hT ?_
              refine AW.c (fun h => ?_) (fun h => ?_)
              · skip
                refine AW.seq ?_
                refine AW.r hT ?_
                refine AW.ret ?_
                simp only [go_sem, simprocAttr]
                rw [if_neg (by omega), show kn op = 2 from by unfold kn; rw [if_neg (by omega), if_pos (by omega)]]; rfl
              · skip
                refine AW.skip ?_
                refine AW.seq ?_
                refine AW.r hT ?_
                refine AW.ret ?_
                simp only [go_sem, simprocAttr]
                rw [if_pos (by omega)]
          · skip
            refine AW.r hT ?_
            refine AW.c (fun h => ?_) (fun h => ?_)
            · skip
              refine AW.seq ?_
              refine AW.r hT ?_
              refine AW.ret ?_
              simp only [go_sem, simprocAttr]
              rw [if_neg (by omega), show kn op = 1 from by unfold kn; rw [if_pos (by omega)]]; rfl
            · skip
              refine AW.seq ?_
              refine AW.r hT ?_
              refine AW.c (fun h => ?_) (fun h => ?_)
              · skip
                refine AW.seq ?_
                refine AW.r hT ?_
                refine AW.ret ?_
                simp only [go_sem, simprocAttr]
                rw [if_neg (by omega), show kn op = 2 from by unfold kn; rw [if_neg (by omega), if_pos (by omega)]]; rfl
              · skip
                refine AW.skip ?_
                refine AW.seq ?_
                refine AW.r hT ?_
                refine AW.ret ?_
                simp only [go_sem, simprocAttr]
                rw [if_pos (by omega)]
      · skip
        refine AW.seq ?_
        refine AW.r hT ?_
        refine AW.c (fun h => ?_) (fun h => ?_)
        · skip
          refine AW.skip ?_
          refine AW.c (fun h => ?_) (fun h => ?_)
          · skip
            refine AW.seq ?_
            refine AW.r hT ?_
            refine AW.ret ?_
            simp only [go_sem, simprocAttr]
            rw [if_neg (by omega), show kn op = 0 from by unfold kn; rw [if_neg (by omega), if_neg (by omega)]]; rfl
          · skip
            refine AW.seq ?_
            refine AW.seq ?_
            refine AW.r hT ?_
            refine AW.c (fun h => ?_) (fun h => ?_)
            · skip
              refine AW.skip ?_
              refine AW.c (fun h => ?_) (fun h => ?_)
              · skip
                refine AW.seq ?_
                refine AW.r hT ?_
                refine AW.ret ?_
                simp only [go_sem, simprocAttr]
                rw [if_neg (by omega), show kn op = 1 from by unfold kn; rw [if_pos (by omega)]]; rfl
              · skip
                refine AW.seq ?_
                refine AW.r hT ?_
                refine AW.c (fun h => ?_) (fun h => ?_)
                · skip
                  refine AW.seq ?_
                  refine AW.r hT ?_
                  refine AW.ret ?_
                  simp only [go_sem, simprocAttr]
                  rw [if_neg (by omega), show kn op = 2 from by unfold kn; rw [if_neg (by omega), if_pos (by omega)]]; rfl
                · skip
                  refine AW.skip ?_
                  refine AW.seq ?_
                  refine AW.r hT ?_
                  refine AW.ret ?_
                  simp only [go_sem, simprocAttr]
                  rw [if_pos (by omega)]
            · skip
              refine AW.r hT ?_
              refine AW.c (fun h => ?_) (fun h => ?_)
              · skip
                refine AW.seq ?_
                refine AW.r hT ?_
                refine AW.ret ?_
                simp only [go_sem, simprocAttr]
                rw [if_neg (by omega), show kn op = 1 from by unfold kn; rw [if_pos (by omega)]]; rfl
              · skip
                refine AW.seq ?_
                refine AW.r hT ?_
                refine AW.c (fun h => ?_) (fun h => ?_)
                · skip
                  refine AW.seq ?_
                  refine AW.r hT ?_
                  refine AW.ret ?_
                  simp only [go_sem, simprocAttr]
                  rw [if_neg (by omega), show kn op = 2 from by unfold kn; rw [if_neg (by omega), if_pos (by omega)]]; rfl
                · skip
                  refine AW.skip ?_
                  refine AW.seq ?_
                  refine AW.r hT ?_
                  refine AW.ret ?_
                  simp only [go_sem, simprocAttr]
                  rw [if_pos (by omega)]
        · skip
          refine AW.r hT ?_
          refine AW.c (fun h => ?_) (fun h => ?_)
          · skip
            refine AW.seq ?_
            refine AW.r hT ?_
            refine AW.ret ?_
            simp only [go_sem, simprocAttr]
            rw [if_neg (by omega), show kn op = 0 from by unfold kn; rw [if_neg (by omega), if_neg (by omega)]]; rfl
          · skip
            refine AW.seq ?_
            refine AW.seq ?_
            refine AW.r hT ?_
            refine AW.c (fun h => ?_) (fun h => ?_)
            · skip
              refine AW.skip ?_
              refine AW.c (fun h => ?_) (fun h => ?_)
              · skip
                refine AW.seq ?_
                refine AW.r hT ?_
                refine AW.ret ?_
                simp only [go_sem, simprocAttr]
                rw [if_neg (by omega), show kn op = 1 from by unfold kn; rw [if_pos (by omega)]]; rfl
              · skip
                refine AW.seq ?_
                refine AW.r hT ?_
                refine AW.c (fun h => ?_) (fun h => ?_)
                · skip
                  refine AW.seq ?_
                  refine AW.r hT ?_
                  refine AW.ret ?_
                  simp only [go_sem, simprocAttr]
                  rw [if_neg (by omega), show kn op = 2 from by unfold kn; rw [if_neg (by omega), if_pos (by omega)]]; rfl
                · skip
                  refine AW.skip ?_
                  refine AW.seq ?_
                  refine AW.r hT ?_
                  refine AW.ret ?_
                  simp only [go_sem, simprocAttr]
                  rw [if_pos (by omega)]
            · skip
              refine AW.r hT ?_
              refine AW.c (fun h => ?_) (fun h => ?_)
              · skip
                refine AW.seq ?_
                refine AW.r hT ?_
                refine AW.ret ?_
                simp only [go_sem, simprocAttr]
                rw [if_neg (by omega), show kn op = 1 from by unfold kn; rw [if_pos (by omega)]]; rfl
              · skip
                refine AW.seq ?_
                refine AW.r hT ?_
                refine AW.c (fun h => ?_) (fun h => ?_)
                · skip
                  refine AW.seq ?_
                  refine AW.r hT ?_
                  refine AW.ret ?_
                  simp only [go_sem, simprocAttr]
                  rw [if_neg (by omega), show kn op = 2 from by unfold kn; rw [if_neg (by omega), if_pos (by omega)]]; rfl
                · skip
                  refine AW.skip ?_
                  refine AW.seq ?_
                  refine AW.r hT ?_
                  refine AW.ret ?_
                  simp only [go_sem, simprocAttr]
                  rw [if_pos (by omega)]
theorem c_spec_l1Count (v : Doc) : PC Try.prog 107 [.agg (v.cells.map .d)] (fun r => r = iv .i64 (IntKind.i64.wrap (dcount v))) := by
  refine PC.intro hT Try.func107 rfl (by decide) ?_
  intro F hF
  simp only [startAS, Try.f107, go_sem]
  refine AW.know fun hfit => ?_
  simp only [go_sem, fitsL, fits, fitsO, Nat.reduceAdd] at hfit
  have hlen : v.kids.length ≤ maxLen := by simp only [hfit]
  unfold maxLen at hlen
  clear hfit
  refine AW.seq ?_
  refine AW.r hT ?_
  refine AW.seq ?_
  refine AW.r hT ?_
  refine AW.seq ?_
  refine AW.seq ?_
  refine AW.r hT ?_
  refine AW.block ?_
  refine AW.loop (ι := Nat) (fun i => i ≤ v.kids.length) (fun i => ⟨List.replicate 1 .dead ++ [.ptr 0 0] ++ List.replicate 1 .dead ++ [iv .i64 (IntKind.i64.wrap (1 + dcounts (v.kids.take i))), iv .i64 i] ++ List.replicate 16 .dead, [.box 24 (v.cells.map .d)]⟩) (fun i => v.kids.length - i) 0 (Nat.zero_le _) (fun _ => by rw [hF]; first | exact Nat.zero_le _ | simp) ?_ ?_
  · simp only [go_sem, simprocAttr]
    all_goals (simp [dcounts, IntKind.wrap_i64])
  · intro i hi
    refine AW.seq ?_
    refine AW.seq ?_
    refine AW.r hT ?_
    refine AW.c (fun h => ?_) (fun h => ?_)
    · skip
      have hlt : i < v.kids.length := by omega
      refine AW.skip ?_
      refine AW.seq ?_
      refine AW.block ?_
      refine AW.region ?_
      refine AL.u hT ?_
      refine AL.c (c_spec_l1Count (v.kids.getD i default)) ?_
      rintro r rfl
      refine AL.e hT ?_
      refine AW.r hT ?_
      refine ⟨i + 1, by omega, (by show _ - (i + 1) < _ - i; omega), ?_⟩
      simp only [go_sem, simprocAttr]
      rw [take_snocD v.kids i default hlt, dcounts_append]
      simp only [dcounts, IntKind.wrap_i64]
      omega
    · skip
      refine AW.exit ?_
      simp only [go_sem, simprocAttr]
      refine AW.seq ?_
      refine AW.r hT ?_
      refine AW.ret ?_
      simp only [go_sem, simprocAttr]
      have hi : i = v.kids.length := by omega
      rw [hi, List.take_length]
      cases v; rfl
termination_by SizeOf.sizeOf v
decreasing_by exact Doc.kid_lt v i hlt
theorem c_spec_l1Is (d : Nat) (hd : d ≤ 1000) (v : Doc) : PC Try.prog 106 [.agg (v.cells.map .d), iv .i64 d] (fun r => r = bv (dis d v)) := by
  refine PC.intro hT Try.func106 rfl (by decide) ?_
  intro F hF
  simp only [startAS, Try.f106, go_sem]
  refine AW.know fun hfit => ?_
  simp only [go_sem, fitsL, fits, fitsO, Nat.reduceAdd] at hfit
  have hlen : v.kids.length ≤ maxLen := by simp only [hfit]
  unfold maxLen at hlen
  clear hfit
  refine AW.seq ?_
  refine AW.r hT ?_
  refine AW.seq ?_
  refine AW.seq ?_
  refine AW.draw hT 9 (by decide) ?_
  simp only [go_sem, simprocAttr]
  refine DL.u ?_
  refine DL.cG (fun hG => c_spec_l1Kids v.op) ?_
  simp only [go_sem, simprocAttr]
  refine DL.e ?_
  refine AL.e hT ?_
  refine AW.c (fun h => ?_) (fun h => ?_)
  · skip
    refine AW.seq ?_
    refine AW.r hT ?_
    refine AW.ret ?_
    simp only [go_sem, simprocAttr]
    have hc : d = 0 ∨ v.op < 1 ∨ v.op > 8 ∨ v.kids.length ≠ kn v.op := by
      rcases h with h | h
      · omega
      · split at h <;> omega
    rw [dis_eq, if_pos hc]
  · skip
    have hc : ¬ (d = 0 ∨ v.op < 1 ∨ v.op > 8 ∨ v.kids.length ≠ kn v.op) := by
      have h1 := h.1
      have h2 := h.2
      split at h2 <;> omega
    have hdw : IntKind.i64.wrap ((d : Int) - 1) = ((d - 1 : Nat) : Int) := by rw [wrapId (by omega) (by omega)]; omega
    refine AW.skip ?_
    refine AW.seq ?_
    refine AW.seq ?_
    refine AW.region ?_
    refine AL.u hT ?_
    refine AL.cF hT (fun hG => c_spec_TextValid v.text) ?_
    simp only [go_sem, simprocAttr]
    refine AL.e hT ?_
    refine AW.c (fun h => ?_) (fun h => ?_)
    · skip
      refine AW.seq ?_
      refine AW.r hT ?_
      refine AW.ret ?_
      simp only [go_sem, simprocAttr]
      rw [dis_eq, if_neg hc, if_pos h]
    · skip
      have ht : ¬ (v.op = 2 ∧ tok v.text = false ∨ v.op ≠ 2 ∧ v.text ≠ ⟨#[]⟩) := fun e => e.elim h.1 h.2
      refine AW.skip ?_
      refine AW.seq ?_
      refine AW.seq ?_
      refine AW.r hT ?_
      refine AW.c (fun h => ?_) (fun h => ?_)
      · skip
        refine AW.seq ?_
        refine AW.r hT ?_
        refine AW.ret ?_
        simp only [go_sem, simprocAttr]
        rw [dis_eq, if_neg hc, if_neg ht, if_pos h]
      · skip
        have hne : ¬ (v.op = 6 ∧ (v.n < 0 ∨ v.n > 9) ∨ v.op ≠ 6 ∧ v.n ≠ 0) := fun e => e.elim h.1 h.2
        refine AW.skip ?_
        refine AW.seq ?_
        refine AW.seq ?_
        refine AW.r hT ?_
        refine AW.block ?_
        refine AW.loop (ι := Nat) (fun i => i ≤ v.kids.length ∧ diss (d - 1) (v.kids.take i) = true) (fun i => ⟨List.replicate 1 .dead ++ [iv .i64 d, .ptr 0 0] ++ List.replicate 2 .dead ++ [iv .i64 i] ++ List.replicate 69 .dead, [.box 24 (v.cells.map .d)]⟩) (fun i => v.kids.length - i) 0 ⟨Nat.zero_le _, rfl⟩ (fun _ => by rw [hF]; first | exact Nat.zero_le _ | simp) ?_ ?_
        · simp only [go_sem, simprocAttr]
          all_goals (rfl)
        · intro i hi
          have hi1 := hi.1
          refine AW.seq ?_
          refine AW.seq ?_
          refine AW.r hT ?_
          refine AW.c (fun h => ?_) (fun h => ?_)
          · skip
            have hlt : i < v.kids.length := by omega
            refine AW.skip ?_
            refine AW.seq ?_
            refine AW.block ?_
            refine AW.seq ?_
            refine AW.region ?_
            refine AL.u hT ?_
            rw [hdw]
            refine AL.c (c_spec_l1Is (d - 1) (by omega) (v.kids.getD i default)) ?_
            rintro r rfl
            refine AL.e hT ?_
            refine AW.c (fun h => ?_) (fun h => ?_)
            · skip
              refine AW.seq ?_
              refine AW.r hT ?_
              refine AW.ret ?_
              simp only [go_sem, simprocAttr]
              rw [dis_eq, if_neg hc, if_neg ht, if_neg hne, diss_false hlt h]
            · skip
              refine AW.skip ?_
              refine AW.r hT ?_
              refine ⟨i + 1, ⟨by omega, by rw [diss_succ _ _ _ hlt, hi.2, h]; rfl⟩, (by show _ - (i + 1) < _ - i; omega), ?_⟩
              simp only [go_sem, simprocAttr]
              rw [wrapId (by omega) (by omega)]
              omega
          · skip
            have hie : i = v.kids.length := by omega
            refine AW.exit ?_
            simp only [go_sem, simprocAttr]
            refine AW.seq ?_
            refine AW.r hT ?_
            refine AW.ret ?_
            simp only [go_sem, simprocAttr]
            rw [hie, List.take_length] at hi
            rw [dis_eq, if_neg hc, if_neg ht, if_neg hne, hi.2]
termination_by SizeOf.sizeOf v
decreasing_by exact Doc.kid_lt v i hlt
theorem c_spec_DocValid (v : Doc) : PC Try.prog 63 [.agg (v.cells.map .d)] (fun r => r = bv (dvalid v)) := by
  refine PC.intro hT Try.func63 rfl (by decide) ?_
  intro F hF
  simp only [startAS, Try.f63, go_sem]
  refine AW.seq ?_
  refine AW.r hT ?_
  refine AW.seq ?_
  refine AW.region ?_
  refine AL.u hT ?_
  refine AL.c (c_spec_l1Is 40 (by omega) v) ?_
  rintro r rfl
  refine AL.u hT ?_
  refine AL.cF hT (fun hG => c_spec_l1Count v) ?_
  simp only [go_sem, simprocAttr]
  refine AL.e hT ?_
  refine AW.ret ?_
  simp only [go_sem, simprocAttr]
  unfold dvalid
  cases hv : dis 40 v with
  | false => rfl
  | true =>
    have h1 := dis_count 40 v hv
    have h2 := dcount_pos v
    have h3 : dmax 40 = 1099511627775 := by decide
    rw [wrapId (by omega) (by omega)]
theorem c_impl_docOk (d : Nat) (hd : d ≤ 1000) (n : Int) (hn0 : 0 ≤ n) (hn : n ≤ 1000) (v : Doc) : GC Try.prog 110 [.box 3 [iv .i64 n]] [.agg (v.cells.map .d), iv .i64 d, .ptr 0 0] (fun os r => r = bv (dok d n v).1 ∧ ∃ more, os = .box 3 [iv .i64 (dok d n v).2] :: more) := by
  refine GC.intro hT Try.func110 rfl (by decide) ?_
  intro F hF
  simp only [startAS, Try.f110, go_sem]
  refine AW.know fun hfit => ?_
  simp only [go_sem, fitsL, fits, fitsO, Nat.reduceAdd] at hfit
  have hlen : v.kids.length ≤ maxLen := by simp only [hfit]
  unfold maxLen at hlen
  clear hfit
  have hw : IntKind.i64.wrap (n - 1) = n - 1 := wrapId (by omega) (by omega)
  refine AW.seq ?_
  refine AW.r hT ?_
  refine AW.seq ?_
  refine AW.r hT ?_
  rw [hw]
  refine AW.seq ?_
  refine AW.seq ?_
  refine AW.r hT ?_
  refine AW.c (fun h => ?_) (fun h => ?_)
  · skip
    refine AW.seq ?_
    refine AW.r hT ?_
    refine AW.ret ?_
    simp only [go_sem, simprocAttr]
    rw [dok_eq, if_pos (by omega)]
    exact ⟨rfl, _, rfl⟩
  · skip
    have h0 : ¬ (d = 0 ∨ n - 1 < 0 ∨ v.op < 1 ∨ v.op > 8) := by omega
    have hdw : IntKind.i64.wrap ((d : Int) - 1) = ((d - 1 : Nat) : Int) := by rw [wrapId (by omega) (by omega)]; omega
    have harr : ([.d (.v (.int .i64 0)), .d (.v (.int .i64 0)), .d (.v (.int .i64 0)), .d (.v (.int .i64 0)), .d (.v (.int .i64 0)), .d (.v (.int .i64 0)), .d (.v (.int .i64 1)), .d (.v (.int .i64 2)), .d (.v (.int .i64 1))] : List AV)[0 + v.op.toNat * 1]? = some (.d (.v (.int .i64 (kn v.op)))) := by
      have : v.op = 1 ∨ v.op = 2 ∨ v.op = 3 ∨ v.op = 4 ∨ v.op = 5 ∨ v.op = 6 ∨ v.op = 7 ∨ v.op = 8 := by omega
      rcases this with e | e | e | e | e | e | e | e <;> rw [e] <;> rfl
    refine AW.skip ?_
    refine AW.seq ?_
    refine AW.r hT ?_
    refine AW.seq ?_
    refine AW.seq ?_
    refine AW.draw hT 7 (by decide) ?_
    simp only [go_sem, simprocAttr]
    refine DL.e ?_ (by simp only [go_sem, simprocAttr, harr]; rfl) -- ?_
    refine AL.e hT ?_
    refine AW.c (fun h => ?_) (fun h => ?_)
    · skip
      refine AW.seq ?_
      refine AW.r hT ?_
      refine AW.ret ?_
      simp only [go_sem, simprocAttr]
      rw [dok_eq, if_neg h0, if_pos (by omega)]
      exact ⟨rfl, _, rfl⟩
    · skip
      have hc : ¬ (v.kids.length ≠ kn v.op ∨ v.n < 0 ∨ v.n > 9 ∨ v.n > 0 ∧ v.op ≠ 6) := by
        have h1 := h
        omega
      refine AW.skip ?_
      refine AW.seq ?_
      refine AW.seq ?_
      refine AW.region ?_
      refine AL.u hT ?_
      refine AL.cF hT (fun hG => c_impl_TextValid v.text) ?_
      simp only [go_sem, simprocAttr]
      refine AL.e hT ?_
      refine AW.c (fun h => ?_) (fun h => ?_)
      · skip
        refine AW.seq ?_
        refine AW.r hT ?_
        refine AW.ret ?_
        simp only [go_sem, simprocAttr]
        rw [dok_eq, if_neg h0, if_neg hc, if_pos h]
        exact ⟨rfl, _, rfl⟩
      · skip
        have ht : ¬ (v.op = 2 ∧ tok v.text = false ∨ v.op ≠ 2 ∧ v.text ≠ ⟨#[]⟩) := fun e => e.elim h.1 h.2
        refine AW.skip ?_
        refine AW.seq ?_
        refine AW.seq ?_
        refine AW.r hT ?_
        refine AW.block ?_
        refine AW.loop (ι := Nat) (fun i => i ≤ v.kids.length ∧ (doks (d - 1) (n - 1) (v.kids.take i)).1 = true) (fun i => ⟨List.replicate 1 .dead ++ [iv .i64 d, .ptr 0 0, .ptr 1 0] ++ List.replicate 78 .dead ++ [.d (.docs v.kids), iv .i64 v.kids.length, iv .i64 i] ++ List.replicate 10 .dead, [.box 3 [iv .i64 (doks (d - 1) (n - 1) (v.kids.take i)).2], .box 24 (v.cells.map .d)]⟩) (fun i => v.kids.length - i) 0 ⟨Nat.zero_le _, by simp [doks]⟩ (fun _ => by rw [hF]; first | exact Nat.zero_le _ | simp) ?_ ?_
        · simp only [go_sem, simprocAttr]
          all_goals (simp only [doks])
        · intro i hi
          have hi1 := hi.1
          obtain ⟨hv1, hv2⟩ := doks_dis (d - 1) (n - 1) (v.kids.take i) (by omega)
          have hv3 := hv2 hi.2
          rw [hi.2] at hv1
          have hv4 : dcounts (v.kids.take i) ≤ n - 1 := by have := hv1.symm; simp only [Bool.and_eq_true, decide_eq_true_eq] at this; exact this.2
          have hv5 := dcounts_nonneg (v.kids.take i)
          refine AW.seq ?_
          refine AW.r hT ?_
          refine AW.seq ?_
          refine AW.c (fun h => ?_) (fun h => ?_)
          · skip
            have hlt : i < v.kids.length := by omega
            have hsu := doks_succ (d - 1) (n - 1) v.kids i hlt hi.2
            refine AW.skip ?_
            refine AW.seq ?_
            refine AW.block ?_
            refine AW.seq ?_
            refine AW.r hT ?_
            refine AW.seq ?_
            refine AW.region ?_
            refine AL.u hT ?_
            rw [hdw]
            refine AL.cP (ob := 0) (c_impl_docOk (d - 1) (by omega) (doks (d - 1) (n - 1) (v.kids.take i)).2 (by omega) (by omega) (v.kids.getD i default)) ?_
            rintro os r ⟨rfl, more, rfl⟩
            refine ⟨_, more, rfl, rfl, rfl, ?_⟩
            simp only [go_sem, simprocAttr]
            refine AL.e hT ?_
            refine AW.c (fun h => ?_) (fun h => ?_)
            · skip
              refine AW.seq ?_
              refine AW.r hT ?_
              refine AW.ret ?_
              simp only [go_sem, simprocAttr]
              have hst := doks_stop (d - 1) (n - 1) v.kids i hlt (by rw [hsu]; exact h)
              rw [dok_eq, if_neg h0, if_neg hc, if_neg ht, hst, hsu]
              exact ⟨rfl, _, rfl⟩
            · skip
              refine AW.skip ?_
              refine AW.r hT ?_
              refine ⟨i + 1, ⟨by omega, by rw [hsu]; exact h⟩, (by show _ - (i + 1) < _ - i; omega), ?_⟩
              simp only [go_sem, simprocAttr]
              rw [wrapId (by omega) (by omega), hsu]
              exact ⟨by omega, rfl⟩
          · skip
            refine AW.exit ?_
            simp only [go_sem, simprocAttr]
            refine AW.seq ?_
            refine AW.r hT ?_
            refine AW.ret ?_
            simp only [go_sem, simprocAttr]
            have hie : i = v.kids.length := by omega
            rw [hie, List.take_length] at hi ⊢
            rw [dok_eq, if_neg h0, if_neg hc, if_neg ht, hi.2]
            exact ⟨rfl, _, rfl⟩
termination_by SizeOf.sizeOf v
decreasing_by all_goals exact Doc.kid_lt v i hlt
theorem c_impl_DocValid (v : Doc) : PC Try.prog 66 [.agg (v.cells.map .d)] (fun r => r = bv (dvalid v)) := by
  refine PC.intro hT Try.func66 rfl (by decide) ?_
  intro F hF
  simp only [startAS, Try.f66, go_sem]
  refine AW.seq ?_
  refine AW.r hT ?_
  refine AW.seq ?_
  refine AW.r hT ?_
  refine AW.seq ?_
  refine AW.region ?_
  refine AL.u hT ?_
  refine AL.cP (ob := 1) (c_impl_docOk 40 (by omega) 80 (by omega) (by omega) v) ?_
  rintro os r ⟨rfl, more, rfl⟩
  refine ⟨_, more, rfl, rfl, rfl, ?_⟩
  simp only [go_sem, simprocAttr]
  refine AL.e hT ?_
  refine AW.ret ?_
  simp only [go_sem, simprocAttr]
  rw [(dok_dis 40 80 v (by omega)).1]
  rfl

end Go.Proofs.Ytkcienioaodnbaa

