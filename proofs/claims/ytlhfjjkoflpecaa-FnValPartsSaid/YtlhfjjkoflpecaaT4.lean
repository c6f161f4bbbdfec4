import Derived.Test.YtlhfjjkoflpecaaT3
import Derived.Test.YtlhfjjkoflpecaaV2
namespace Go.Proofs.Ytlhfjjkoflpecaa
open Go.Proofs.YtlhfjjkoflpecaaAw Go.RowKit
set_option linter.unusedVariables false
set_option linter.unusedSimpArgs false
set_option maxRecDepth 20000
set_option maxHeartbeats 2000000
attribute [local go_sem] runL stepL runQ stepQ isStop AV.closed AV.closedL clo guardB isCall objOp pureOp ops opo opv cellsOf leafB putT constAV fitC loadA cut storeA storeR splice fieldA indexA lenA slOf slOfD binA binI binS binB binG unA pickA convA nilCheckA extractA sliceA sliceD natA toP sliceStr indexStr szB buildSliceA partsA inOrder freezeL freeze1 freezeV freezeVs appendA makeA minA buildA fieldsA verOf dtAt Ob.ver Ob.dt Dt.isSl Dt.len Dt.sz Dt.el Dt.snoc Dt.app Dt.app2 Dt.sub Dt.withEl Dt.zeros mkDoc mkVal mkRow mkRows mkStr mkInt mkByte mkBool mkPiece mkItem asDocs asVals asStrs asInts asRows Doc.cells Val.cells Row.cells Piece.cells Item.cells Doc.eta Val.eta calleeA callArgs calleeO opoL Le LeL LeO LeB LeV AV.under AV.underL Dt.docs.injEq Dt.vals.injEq Dt.rows.injEq Dt.rowss.injEq Dt.strs.injEq Dt.ints.injEq Dt.bytes.injEq Dt.bools.injEq Dt.pieces.injEq Dt.items.injEq eq_self retK retOK resA oneV thenQ blockQ loopQ cutQ retQ retOQ T1 ti1 T2 ti2 T3 ti3 T4 ti4 T5 ti5 T6 ti6 T7 ti7 T8 ti8 T9 ti9 T10 ti10 T11 ti11 T12 ti12 T13 ti13 T14 ti14 T15 ti15 T16 ti16 T17 ti17 T18 ti18 T19 ti19 T21 ti21 T22 ti22 T23 ti23 T24 ti24 T25 ti25 T26 ti26 T27 ti27 T28 ti28 T29 ti29 T30 ti30 T31 ti31 T32 ti32 T33 ti33 T34 ti34 T35 ti35 T36 ti36 T37 ti37 T39 ti39 T40 ti40 T41 ti41 T42 ti42 T43 ti43 T44 ti44 T45 ti45 T46 ti46 T47 ti47 T48 ti48 T49 ti49 T50 ti50 T51 ti51 T52 ti52 T53 ti53 T54 ti54 T55 ti55 T56 ti56 T57 ti57 T58 ti58 T59 ti59 T60 ti60 T61 ti61 T62 ti62 T63 ti63 T64 ti64 T65 ti65 T66 ti66 T67 ti67 T68 ti68 T70 ti70 T71 ti71 T72 ti72 T73 ti73 T74 ti74 T75 ti75 T76 ti76 T77 ti77 T78 ti78 T79 ti79 T83 ti83 T84 ti84 T85 ti85 T86 ti86 T87 ti87 T88 ti88 T90 ti90 T91 ti91 T92 ti92 T93 ti93 T97 ti97 T98 ti98 T99 ti99 T100 ti100 T101 ti101 T102 ti102 T103 ti103 T104 ti104 T105 ti105 T106 ti106 T107 ti107
attribute [local go_sem] toH toH1 frH frH1 idx backs imps bump conv handB pickO all_some all_none false_implies implies_true Bool.not_true Bool.not_false Bool.or_true Bool.true_or Bool.or_false Bool.false_or List.getD_cons_zero List.getD_cons_succ List.getD_nil List.set_cons_zero List.set_cons_succ List.length_cons List.length_nil List.nil_append List.cons_append List.append_nil List.all_cons List.all_nil List.map_cons List.map_nil Bool.and_self Bool.and_true Bool.true_and if_true if_false ite_true ite_false Option.bind_some Option.bind_none Option.map_some Option.map_none Option.getD_some Option.getD_none List.getElem?_cons_zero List.getElem?_cons_succ List.getElem?_nil List.drop_zero List.drop_succ_cons List.drop_nil List.take_succ_cons List.take_zero List.take_nil Bool.false_eq_true Bool.cond_true_left Bool.cond_false_right beq_self_eq_true decide_true decide_false and_true true_and and_self List.toList_toArray reduceCtorEq List.replicate startAS Int.toNat_natCast



theorem sCost_mono {a b : Nat} (h : a ≤ b) : sCost a ≤ sCost b := by
  induction b with
  | zero => have : a = 0 := by omega
            subst this; omega
  | succ b ih =>
    rcases Nat.lt_or_ge a (b + 1) with h1 | h1
    · have := ih (by omega); have := sCost_pos b; simp only [sCost]; omega
    · have : a = b + 1 := by omega
      subst this; omega
theorem sB_mono {a b : Nat} (h : a ≤ b) : sB a ≤ sB b := by
  induction b with
  | zero => have : a = 0 := by omega
            subst this; omega
  | succ b ih =>
    rcases Nat.lt_or_ge a (b + 1) with h1 | h1
    · have := ih (by omega); have := sB_pos b; simp only [sB]; omega
    · have : a = b + 1 := by omega
      subst this; omega
theorem c_spec_l10SomeR (bs : List Int) (hbs : ∀ b ∈ bs, 0 ≤ b ∧ b ≤ 255) (p : Int) (hp : 0 ≤ p) (d : Nat) (hd : d ≤ 100) (hp2 : p + sCost d ≤ 1000000) : GC Try.prog 50 [.box 66 [.d (.bytes bs), iv .i64 p]] [.ptr 0 0, iv .i64 d] (fun os r => ∃ p' v a b o3, os = [.box 66 [.d (.bytes bs), iv .i64 p'], .row 9 (.strs (Val.keys v)) b, .row 30 (.vals (Val.kids v)) a, o3] ∧ p ≤ p' ∧ p' ≤ p + sCost d ∧ r = .agg [iv .i64 (Val.kind v), sv (Val.word v), .row 1 b, .row 2 a] ∧ vsz v ≤ sB d) := by
  cases d with
  | zero => exact c_spec_l10SomeR0 bs hbs p hp (by have := sCost_pos 0; omega)
  | succ d => exact c_spec_l10SomeR_succ bs hbs p hp d (by omega) hp2 (fun p hp hp2 => c_spec_l10Some bs hbs p hp d (by omega) hp2)
theorem c_spec_l10Draw (bs : List Int) (hbs : ∀ b ∈ bs, 0 ≤ b ∧ b ≤ 255) (p : Int) (hp : 0 ≤ p) (hp2 : p ≤ 1000) : GC Try.prog 34 [.box 66 [.d (.bytes bs), iv .i64 p]] [.ptr 0 0] (fun os r => ∃ p' more, os = .box 66 [.d (.bytes bs), iv .i64 p'] :: more ∧ p ≤ p' ∧ p' ≤ p + 200 ∧ (∃ v : Val, r = .agg (v.cells.map .d) ∧ vsz v ≤ 2000)) := by
  have e3 : sCost 3 = 93 := rfl
  have e1 : sCost 1 = 9 := rfl
  have f3 : sB 3 = 450 := rfl
  have f1 : sB 1 = 42 := rfl
  refine GC.intro hT Try.func34 rfl (by decide) ?_
  intro F hF
  simp only [startAS, Try.f34, go_sem]
  refine AW.seq ?_
  refine AW.r hT ?_
  refine AW.seq ?_
  refine AW.region ?_
  refine AL.u hT ?_
  refine AL.fz 6 ?_
  simp only [go_sem, simprocAttr]
  refine AL.cP (ob := 0) (c_spec_num bs hbs p hp (by omega) [2, 3, 1] (by decide) (by decide)) ?_
  rintro os r ⟨p1, more, rfl, hp1a, hp1b, k, rfl, hk⟩
  refine ⟨_, more, rfl, rfl, rfl, ?_⟩
  simp only [go_sem, simprocAttr]
  obtain ⟨d, hd, rfl⟩ : ∃ d : Nat, d ≤ 3 ∧ k = d := by
    simp only [List.mem_cons, List.not_mem_nil, or_false] at hk
    rcases hk with rfl | rfl | rfl
    · exact ⟨2, by omega, rfl⟩
    · exact ⟨3, by omega, rfl⟩
    · exact ⟨1, by omega, rfl⟩
  have hm := sCost_mono hd
  have hmb := sB_mono hd
  refine AL.cH [0] [1, 2] (c_spec_l10SomeR bs hbs p1 (by omega) d (by omega) (by omega)) ?_
  rintro os r ⟨p2, v, a, b, o3, rfl, hp2a, hp2b, rfl, hv⟩
  refine ⟨by simp, by simp, ?_⟩
  simp only [go_sem, simprocAttr]
  refine AL.e hT ?_
  refine AW.seq ?_
  refine AW.seq ?_
  refine AW.region ?_
  refine AL.u hT ?_
  refine AL.cV (c_spec_l10Count v) ?_
  rintro r rfl
  refine ⟨rfl, ?_⟩
  refine AL.e hT ?_
  refine AW.c (fun h => ?_) (fun h => ?_)
  · skip
    obtain ⟨u, hu⟩ : ∃ u : Val, u = v := ⟨_, rfl⟩
    clear hu
    refine AW.region ?_
    refine AL.u hT ?_
    refine AL.cH [0] [1, 2] (c_spec_l10SomeR bs hbs p2 (by omega) 1 (by omega) (by omega)) ?_
    rintro os r ⟨p3, v3, a3, b3, o4, rfl, hp3a, hp3b, rfl, hv3⟩
    refine ⟨by simp, by simp, ?_⟩
    simp only [go_sem, simprocAttr]
    refine AL.e hT ?_
    refine AW.seq ?_
    refine AW.seq ?_
    refine AW.region ?_
    refine AL.u hT ?_
    refine AL.cP (ob := 0) (c_spec_pick bs hbs p3 (by omega) (by omega) 20 (by omega) (by omega)) ?_
    rintro os r ⟨q1, more, rfl, hq1a, hq1b, k, rfl, hk1, hk2⟩
    have hvz := vsz_eq v3
    have hvk := vsum_nonneg v3.kids
    have hvs := ssum_nonneg v3.keys
    have hse : ssz v3.keys = v3.keys.length + ssum v3.keys := rfl
    refine ⟨_, more, rfl, rfl, rfl, ?_⟩
    simp only [go_sem, simprocAttr]
    refine AL.e hT ?_
    refine AW.block ?_
    refine AW.seq ?_
    refine AW.r hT ?_
    refine AW.c (fun h => ?_) (fun h => ?_)
    · skip
      refine AW.region ?_
      refine AL.u hT ?_
      refine AL.fz 19 ?_
      simp only [go_sem, simprocAttr]
      refine AL.cP (ob := 0) (c_spec_of bs hbs q1 (by omega) (by omega) m10 (by decide) (by decide)) ?_
      rintro os r ⟨q2, more, rfl, hq2a, hq2b, s, rfl, hs⟩
      have hs11 := m10_le s hs
      refine ⟨_, more, rfl, rfl, rfl, ?_⟩
      simp only [go_sem, simprocAttr]
      refine AL.e hT ?_
      refine AW.seq ?_
      refine AW.r hT ?_
      simp only [go_sem, simprocAttr]
      refine AW.fzB 1 ?_
      simp only [go_sem, simprocAttr]
      refine AW.ret ?_
      simp only [go_sem, simprocAttr]
      first | exact ⟨_, _, rfl, by omega, by omega, ⟨v3.kind, s, v3.keys, v3.kids⟩, rfl, by simp only [vsz, ssz_snoc, show ByteArray.size ⟨#[107]⟩ = 1 from rfl]; omega⟩ | exact ⟨_, _, rfl, by omega, by omega, ⟨v3.kind, v3.word, v3.keys ++ [⟨#[107]⟩], v3.kids⟩, rfl, by simp only [vsz, ssz_snoc, show ByteArray.size ⟨#[107]⟩ = 1 from rfl]; omega⟩ | exact ⟨_, _, rfl, by omega, by omega, ⟨kd, v3.word, v3.keys, v3.kids⟩, rfl, by simp only [vsz, ssz_snoc, show ByteArray.size ⟨#[107]⟩ = 1 from rfl]; omega⟩ | exact ⟨_, _, rfl, by omega, by omega, ⟨v3.kind, v3.word, v3.keys, v3.kids⟩, rfl, by simp only [vsz, ssz_snoc, show ByteArray.size ⟨#[107]⟩ = 1 from rfl]; omega⟩
    · skip
      refine AW.seq ?_
      refine AW.r hT ?_
      refine AW.c (fun h => ?_) (fun h => ?_)
      · skip
        refine AW.r hT ?_
        refine AW.seq ?_
        refine AW.r hT ?_
        simp only [go_sem, simprocAttr]
        refine AW.fzB 1 ?_
        simp only [go_sem, simprocAttr]
        refine AW.ret ?_
        simp only [go_sem, simprocAttr]
        first | exact ⟨_, _, rfl, by omega, by omega, ⟨v3.kind, s, v3.keys, v3.kids⟩, rfl, by simp only [vsz, ssz_snoc, show ByteArray.size ⟨#[107]⟩ = 1 from rfl]; omega⟩ | exact ⟨_, _, rfl, by omega, by omega, ⟨v3.kind, v3.word, v3.keys ++ [⟨#[107]⟩], v3.kids⟩, rfl, by simp only [vsz, ssz_snoc, show ByteArray.size ⟨#[107]⟩ = 1 from rfl]; omega⟩ | exact ⟨_, _, rfl, by omega, by omega, ⟨kd, v3.word, v3.keys, v3.kids⟩, rfl, by simp only [vsz, ssz_snoc, show ByteArray.size ⟨#[107]⟩ = 1 from rfl]; omega⟩ | exact ⟨_, _, rfl, by omega, by omega, ⟨v3.kind, v3.word, v3.keys, v3.kids⟩, rfl, by simp only [vsz, ssz_snoc, show ByteArray.size ⟨#[107]⟩ = 1 from rfl]; omega⟩
      · skip
        refine AW.seq ?_
        refine AW.r hT ?_
        refine AW.c (fun h => ?_) (fun h => ?_)
        · skip
          refine AW.region ?_
          refine AL.u hT ?_
          refine AL.fz 32 ?_
          simp only [go_sem, simprocAttr]
          refine AL.cP (ob := 0) (c_spec_num bs hbs q1 (by omega) (by omega) [0, 4, 1, 2] (by decide) (by decide)) ?_
          rintro os r ⟨q2, more, rfl, hq2a, hq2b, kd, rfl, hkd⟩
          refine ⟨_, more, rfl, rfl, rfl, ?_⟩
          simp only [go_sem, simprocAttr]
          refine AL.e hT ?_
          refine AW.seq ?_
          refine AW.r hT ?_
          simp only [go_sem, simprocAttr]
          refine AW.fzB 1 ?_
          simp only [go_sem, simprocAttr]
          refine AW.ret ?_
          simp only [go_sem, simprocAttr]
          first | exact ⟨_, _, rfl, by omega, by omega, ⟨v3.kind, s, v3.keys, v3.kids⟩, rfl, by simp only [vsz, ssz_snoc, show ByteArray.size ⟨#[107]⟩ = 1 from rfl]; omega⟩ | exact ⟨_, _, rfl, by omega, by omega, ⟨v3.kind, v3.word, v3.keys ++ [⟨#[107]⟩], v3.kids⟩, rfl, by simp only [vsz, ssz_snoc, show ByteArray.size ⟨#[107]⟩ = 1 from rfl]; omega⟩ | exact ⟨_, _, rfl, by omega, by omega, ⟨kd, v3.word, v3.keys, v3.kids⟩, rfl, by simp only [vsz, ssz_snoc, show ByteArray.size ⟨#[107]⟩ = 1 from rfl]; omega⟩ | exact ⟨_, _, rfl, by omega, by omega, ⟨v3.kind, v3.word, v3.keys, v3.kids⟩, rfl, by simp only [vsz, ssz_snoc, show ByteArray.size ⟨#[107]⟩ = 1 from rfl]; omega⟩
        · skip
          refine AW.skip ?_
          refine AW.seq ?_
          refine AW.r hT ?_
          simp only [go_sem, simprocAttr]
          refine AW.fzB 1 ?_
          simp only [go_sem, simprocAttr]
          refine AW.ret ?_
          simp only [go_sem, simprocAttr]
          first | exact ⟨_, _, rfl, by omega, by omega, ⟨v3.kind, s, v3.keys, v3.kids⟩, rfl, by simp only [vsz, ssz_snoc, show ByteArray.size ⟨#[107]⟩ = 1 from rfl]; omega⟩ | exact ⟨_, _, rfl, by omega, by omega, ⟨v3.kind, v3.word, v3.keys ++ [⟨#[107]⟩], v3.kids⟩, rfl, by simp only [vsz, ssz_snoc, show ByteArray.size ⟨#[107]⟩ = 1 from rfl]; omega⟩ | exact ⟨_, _, rfl, by omega, by omega, ⟨kd, v3.word, v3.keys, v3.kids⟩, rfl, by simp only [vsz, ssz_snoc, show ByteArray.size ⟨#[107]⟩ = 1 from rfl]; omega⟩ | exact ⟨_, _, rfl, by omega, by omega, ⟨v3.kind, v3.word, v3.keys, v3.kids⟩, rfl, by simp only [vsz, ssz_snoc, show ByteArray.size ⟨#[107]⟩ = 1 from rfl]; omega⟩
  · skip
    have hv3 : vsz v ≤ 450 := by omega
    obtain ⟨p3, hp3⟩ : ∃ x, x = p2 := ⟨_, rfl⟩
    have hp3a : p ≤ p3 := by omega
    have hp3b : p3 ≤ p + 200 - 10 := by omega
    rw [← hp3]
    obtain ⟨v3, hv3e⟩ : ∃ x, x = v := ⟨_, rfl⟩
    rw [← hv3e] at hv3 ⊢
    refine AW.skip ?_
    refine AW.seq ?_
    refine AW.seq ?_
    refine AW.region ?_
    refine AL.u hT ?_
    refine AL.cP (ob := 0) (c_spec_pick bs hbs p3 (by omega) (by omega) 20 (by omega) (by omega)) ?_
    rintro os r ⟨q1, more, rfl, hq1a, hq1b, k, rfl, hk1, hk2⟩
    have hvz := vsz_eq v3
    have hvk := vsum_nonneg v3.kids
    have hvs := ssum_nonneg v3.keys
    have hse : ssz v3.keys = v3.keys.length + ssum v3.keys := rfl
    refine ⟨_, more, rfl, rfl, rfl, ?_⟩
    simp only [go_sem, simprocAttr]
    refine AL.e hT ?_
    refine AW.block ?_
    refine AW.seq ?_
    refine AW.r hT ?_
    refine AW.c (fun h => ?_) (fun h => ?_)
    · skip
      refine AW.region ?_
      refine AL.u hT ?_
      refine AL.fz 19 ?_
      simp only [go_sem, simprocAttr]
      refine AL.cP (ob := 0) (c_spec_of bs hbs q1 (by omega) (by omega) m10 (by decide) (by decide)) ?_
      rintro os r ⟨q2, more, rfl, hq2a, hq2b, s, rfl, hs⟩
      have hs11 := m10_le s hs
      refine ⟨_, more, rfl, rfl, rfl, ?_⟩
      simp only [go_sem, simprocAttr]
      refine AL.e hT ?_
      refine AW.seq ?_
      refine AW.r hT ?_
      simp only [go_sem, simprocAttr]
      refine AW.fzB 1 ?_
      simp only [go_sem, simprocAttr]
      refine AW.ret ?_
      simp only [go_sem, simprocAttr]
      first | exact ⟨_, _, rfl, by omega, by omega, ⟨v3.kind, s, v3.keys, v3.kids⟩, rfl, by simp only [vsz, ssz_snoc, show ByteArray.size ⟨#[107]⟩ = 1 from rfl]; omega⟩ | exact ⟨_, _, rfl, by omega, by omega, ⟨v3.kind, v3.word, v3.keys ++ [⟨#[107]⟩], v3.kids⟩, rfl, by simp only [vsz, ssz_snoc, show ByteArray.size ⟨#[107]⟩ = 1 from rfl]; omega⟩ | exact ⟨_, _, rfl, by omega, by omega, ⟨kd, v3.word, v3.keys, v3.kids⟩, rfl, by simp only [vsz, ssz_snoc, show ByteArray.size ⟨#[107]⟩ = 1 from rfl]; omega⟩ | exact ⟨_, _, rfl, by omega, by omega, ⟨v3.kind, v3.word, v3.keys, v3.kids⟩, rfl, by simp only [vsz, ssz_snoc, show ByteArray.size ⟨#[107]⟩ = 1 from rfl]; omega⟩
    · skip
      refine AW.seq ?_
      refine AW.r hT ?_
      refine AW.c (fun h => ?_) (fun h => ?_)
      · skip
        refine AW.r hT ?_
        refine AW.seq ?_
        refine AW.r hT ?_
        simp only [go_sem, simprocAttr]
        refine AW.fzB 1 ?_
        simp only [go_sem, simprocAttr]
        refine AW.ret ?_
        simp only [go_sem, simprocAttr]
        first | exact ⟨_, _, rfl, by omega, by omega, ⟨v3.kind, s, v3.keys, v3.kids⟩, rfl, by simp only [vsz, ssz_snoc, show ByteArray.size ⟨#[107]⟩ = 1 from rfl]; omega⟩ | exact ⟨_, _, rfl, by omega, by omega, ⟨v3.kind, v3.word, v3.keys ++ [⟨#[107]⟩], v3.kids⟩, rfl, by simp only [vsz, ssz_snoc, show ByteArray.size ⟨#[107]⟩ = 1 from rfl]; omega⟩ | exact ⟨_, _, rfl, by omega, by omega, ⟨kd, v3.word, v3.keys, v3.kids⟩, rfl, by simp only [vsz, ssz_snoc, show ByteArray.size ⟨#[107]⟩ = 1 from rfl]; omega⟩ | exact ⟨_, _, rfl, by omega, by omega, ⟨v3.kind, v3.word, v3.keys, v3.kids⟩, rfl, by simp only [vsz, ssz_snoc, show ByteArray.size ⟨#[107]⟩ = 1 from rfl]; omega⟩
      · skip
        refine AW.seq ?_
        refine AW.r hT ?_
        refine AW.c (fun h => ?_) (fun h => ?_)
        · skip
          refine AW.region ?_
          refine AL.u hT ?_
          refine AL.fz 32 ?_
          simp only [go_sem, simprocAttr]
          refine AL.cP (ob := 0) (c_spec_num bs hbs q1 (by omega) (by omega) [0, 4, 1, 2] (by decide) (by decide)) ?_
          rintro os r ⟨q2, more, rfl, hq2a, hq2b, kd, rfl, hkd⟩
          refine ⟨_, more, rfl, rfl, rfl, ?_⟩
          simp only [go_sem, simprocAttr]
          refine AL.e hT ?_
          refine AW.seq ?_
          refine AW.r hT ?_
          simp only [go_sem, simprocAttr]
          refine AW.fzB 1 ?_
          simp only [go_sem, simprocAttr]
          refine AW.ret ?_
          simp only [go_sem, simprocAttr]
          first | exact ⟨_, _, rfl, by omega, by omega, ⟨v3.kind, s, v3.keys, v3.kids⟩, rfl, by simp only [vsz, ssz_snoc, show ByteArray.size ⟨#[107]⟩ = 1 from rfl]; omega⟩ | exact ⟨_, _, rfl, by omega, by omega, ⟨v3.kind, v3.word, v3.keys ++ [⟨#[107]⟩], v3.kids⟩, rfl, by simp only [vsz, ssz_snoc, show ByteArray.size ⟨#[107]⟩ = 1 from rfl]; omega⟩ | exact ⟨_, _, rfl, by omega, by omega, ⟨kd, v3.word, v3.keys, v3.kids⟩, rfl, by simp only [vsz, ssz_snoc, show ByteArray.size ⟨#[107]⟩ = 1 from rfl]; omega⟩ | exact ⟨_, _, rfl, by omega, by omega, ⟨v3.kind, v3.word, v3.keys, v3.kids⟩, rfl, by simp only [vsz, ssz_snoc, show ByteArray.size ⟨#[107]⟩ = 1 from rfl]; omega⟩
        · skip
          refine AW.skip ?_
          refine AW.seq ?_
          refine AW.r hT ?_
          simp only [go_sem, simprocAttr]
          refine AW.fzB 1 ?_
          simp only [go_sem, simprocAttr]
          refine AW.ret ?_
          simp only [go_sem, simprocAttr]
          first | exact ⟨_, _, rfl, by omega, by omega, ⟨v3.kind, s, v3.keys, v3.kids⟩, rfl, by simp only [vsz, ssz_snoc, show ByteArray.size ⟨#[107]⟩ = 1 from rfl]; omega⟩ | exact ⟨_, _, rfl, by omega, by omega, ⟨v3.kind, v3.word, v3.keys ++ [⟨#[107]⟩], v3.kids⟩, rfl, by simp only [vsz, ssz_snoc, show ByteArray.size ⟨#[107]⟩ = 1 from rfl]; omega⟩ | exact ⟨_, _, rfl, by omega, by omega, ⟨kd, v3.word, v3.keys, v3.kids⟩, rfl, by simp only [vsz, ssz_snoc, show ByteArray.size ⟨#[107]⟩ = 1 from rfl]; omega⟩ | exact ⟨_, _, rfl, by omega, by omega, ⟨v3.kind, v3.word, v3.keys, v3.kids⟩, rfl, by simp only [vsz, ssz_snoc, show ByteArray.size ⟨#[107]⟩ = 1 from rfl]; omega⟩
theorem c_spec_DrawValValid (bs : List Int) (hbs : ∀ b ∈ bs, 0 ≤ b ∧ b ≤ 255) : PC Try.prog 16 [.d (.bytes bs)] (fun r => ∃ v : Val, r = .agg (v.cells.map .d) ∧ vsz v ≤ 2000) := by
  refine PC.intro hT Try.func16 rfl (by decide) ?_
  intro F hF
  simp only [startAS, Try.f16, go_sem]
  refine AW.seq ?_
  refine AW.r hT ?_
  refine AW.seq ?_
  refine AW.region ?_
  refine AL.u hT ?_
  refine AL.cN (c_spec_l15Open bs) ?_
  rintro os r ⟨more, rfl, rfl⟩
  refine ⟨_, _, more, rfl, rfl, rfl, ?_⟩
  simp only [go_sem, simprocAttr]
  refine AL.cP (ob := 1) (c_spec_l10Draw (bs.take 2000) (fun b hb => hbs b (List.mem_of_mem_take hb)) 0 (by omega) (by omega)) ?_
  rintro os r ⟨p1, more, rfl, hp1, hp2, v, rfl, hv⟩
  refine ⟨_, more, rfl, rfl, rfl, ?_⟩
  simp only [go_sem, simprocAttr]
  refine AL.e hT ?_
  refine AW.ret ?_
  simp only [go_sem, simprocAttr]
  exact ⟨v, rfl, hv⟩

end Go.Proofs.Ytlhfjjkoflpecaa

