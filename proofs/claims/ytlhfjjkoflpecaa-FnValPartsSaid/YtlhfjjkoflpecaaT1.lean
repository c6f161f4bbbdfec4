import Derived.Test.YtlhfjjkoflpecaaV1
namespace Go.Proofs.Ytlhfjjkoflpecaa
open Go.Proofs.YtlhfjjkoflpecaaAw Go.RowKit
set_option linter.unusedVariables false
set_option linter.unusedSimpArgs false
set_option maxRecDepth 20000
set_option maxHeartbeats 2000000
attribute [local go_sem] runL stepL runQ stepQ isStop AV.closed AV.closedL clo guardB isCall objOp pureOp ops opo opv cellsOf leafB putT constAV fitC loadA cut storeA storeR splice fieldA indexA lenA slOf slOfD binA binI binS binB binG unA pickA convA nilCheckA extractA sliceA sliceD natA toP sliceStr indexStr szB buildSliceA partsA inOrder freezeL freeze1 freezeV freezeVs appendA makeA minA buildA fieldsA verOf dtAt Ob.ver Ob.dt Dt.isSl Dt.len Dt.sz Dt.el Dt.snoc Dt.app Dt.app2 Dt.sub Dt.withEl Dt.zeros mkDoc mkVal mkRow mkRows mkStr mkInt mkByte mkBool mkPiece mkItem asDocs asVals asStrs asInts asRows Doc.cells Val.cells Row.cells Piece.cells Item.cells Doc.eta Val.eta calleeA callArgs calleeO opoL Le LeL LeO LeB LeV AV.under AV.underL Dt.docs.injEq Dt.vals.injEq Dt.rows.injEq Dt.rowss.injEq Dt.strs.injEq Dt.ints.injEq Dt.bytes.injEq Dt.bools.injEq Dt.pieces.injEq Dt.items.injEq eq_self retK retOK resA oneV thenQ blockQ loopQ cutQ retQ retOQ T1 ti1 T2 ti2 T3 ti3 T4 ti4 T5 ti5 T6 ti6 T7 ti7 T8 ti8 T9 ti9 T10 ti10 T11 ti11 T12 ti12 T13 ti13 T14 ti14 T15 ti15 T16 ti16 T17 ti17 T18 ti18 T19 ti19 T21 ti21 T22 ti22 T23 ti23 T24 ti24 T25 ti25 T26 ti26 T27 ti27 T28 ti28 T29 ti29 T30 ti30 T31 ti31 T32 ti32 T33 ti33 T34 ti34 T35 ti35 T36 ti36 T37 ti37 T39 ti39 T40 ti40 T41 ti41 T42 ti42 T43 ti43 T44 ti44 T45 ti45 T46 ti46 T47 ti47 T48 ti48 T49 ti49 T50 ti50 T51 ti51 T52 ti52 T53 ti53 T54 ti54 T55 ti55 T56 ti56 T57 ti57 T58 ti58 T59 ti59 T60 ti60 T61 ti61 T62 ti62 T63 ti63 T64 ti64 T65 ti65 T66 ti66 T67 ti67 T68 ti68 T70 ti70 T71 ti71 T72 ti72 T73 ti73 T74 ti74 T75 ti75 T76 ti76 T77 ti77 T78 ti78 T79 ti79 T83 ti83 T84 ti84 T85 ti85 T86 ti86 T87 ti87 T88 ti88 T90 ti90 T91 ti91 T92 ti92 T93 ti93 T97 ti97 T98 ti98 T99 ti99 T100 ti100 T101 ti101 T102 ti102 T103 ti103 T104 ti104 T105 ti105 T106 ti106 T107 ti107
attribute [local go_sem] toH toH1 frH frH1 idx backs imps bump conv handB pickO all_some all_none false_implies implies_true Bool.not_true Bool.not_false Bool.or_true Bool.true_or Bool.or_false Bool.false_or List.getD_cons_zero List.getD_cons_succ List.getD_nil List.set_cons_zero List.set_cons_succ List.length_cons List.length_nil List.nil_append List.cons_append List.append_nil List.all_cons List.all_nil List.map_cons List.map_nil Bool.and_self Bool.and_true Bool.true_and if_true if_false ite_true ite_false Option.bind_some Option.bind_none Option.map_some Option.map_none Option.getD_some Option.getD_none List.getElem?_cons_zero List.getElem?_cons_succ List.getElem?_nil List.drop_zero List.drop_succ_cons List.drop_nil List.take_succ_cons List.take_zero List.take_nil Bool.false_eq_true Bool.cond_true_left Bool.cond_false_right beq_self_eq_true decide_true decide_false and_true true_and and_self List.toList_toArray reduceCtorEq List.replicate startAS Int.toNat_natCast



/-! ### Drawing -/
theorem getD_mem {α : Type} (xs : List α) (d : α) (i : Nat) (h : i < xs.length) : xs.getD i d ∈ xs := by
  rw [getD_lt' xs d i h]; exact List.getElem_mem h
theorem byte_get {bs : List Int} (hb : ∀ b ∈ bs, 0 ≤ b ∧ b ≤ 255) (i : Nat) (h : i < bs.length) : 0 ≤ bs.getD i 0 ∧ bs.getD i 0 ≤ 255 := hb _ (getD_mem bs 0 i h)
theorem xor_nonneg (a b : Int) (ha : 0 ≤ a) (ha' : a < 9223372036854775808) (hb : 0 ≤ b) (hb' : b < 9223372036854775808) : 0 ≤ IntKind.i64.wrap (BitVec.ofInt IntKind.i64.bits a ^^^ BitVec.ofInt IntKind.i64.bits b).toNat := by
  obtain ⟨m, rfl⟩ := Int.eq_ofNat_of_zero_le ha
  obtain ⟨n, rfl⟩ := Int.eq_ofNat_of_zero_le hb
  have h1 : (m ^^^ n) < 2 ^ 63 := Nat.xor_lt_two_pow (by omega) (by omega)
  have hbits : IntKind.i64.bits = 64 := rfl
  have e : (BitVec.ofInt IntKind.i64.bits (m : Int) ^^^ BitVec.ofInt IntKind.i64.bits (n : Int)).toNat = m ^^^ n := by
    rw [BitVec.toNat_xor, BitVec.toNat_ofInt, BitVec.toNat_ofInt, hbits]
    have e1 : ((m : Int) % ((2 ^ 64 : Nat) : Int)).toNat = m := by omega
    have e2 : ((n : Int) % ((2 ^ 64 : Nat) : Int)).toNat = n := by omega
    rw [e1, e2]
  rw [e, wrapId (by omega) (by omega)]
  omega
theorem tmod_range {a n : Int} (ha : 0 ≤ a) (hn : 1 ≤ n) : 0 ≤ a.tmod n ∧ a.tmod n < n := ⟨Int.tmod_nonneg n ha, Int.tmod_lt_of_pos a (by omega)⟩

theorem c_spec_pick (bs : List Int) (hbs : ∀ b ∈ bs, 0 ≤ b ∧ b ≤ 255) (p : Int) (hp : 0 ≤ p) (hp2 : p ≤ 1000000000) (n : Int) (hn : -9223372036854775808 ≤ n) (hn2 : n ≤ 9223372036854775807) : GC Try.prog 39 [.box 66 [.d (.bytes bs), iv .i64 p]] [.ptr 0 0, iv .i64 n] (fun os r => ∃ p' more, os = .box 66 [.d (.bytes bs), iv .i64 p'] :: more ∧ p ≤ p' ∧ p' ≤ p + 1 ∧ (∃ k, r = iv .i64 k ∧ 0 ≤ k ∧ (1 ≤ n → k < n))) := by
  refine GC.intro hT Try.func39 rfl (by decide) ?_
  intro F hF
  simp only [startAS, Try.f39, go_sem]
  refine AW.knowO 0 rfl fun hfit => ?_
  have hlen : bs.length ≤ maxLen := hfit.1
  unfold maxLen at hlen
  clear hfit
  have hw : IntKind.i64.wrap (p + 1) = p + 1 := wrapId (by omega) (by omega)
  have hw2 : IntKind.i64.wrap (p + 1 - 1) = p := by rw [wrapId (by omega) (by omega)]; omega
  refine AW.seq ?_
  refine AW.r hT ?_
  refine AW.seq ?_
  refine AW.r hT ?_
  rw [hw]
  refine AW.seq ?_
  refine AW.seq ?_
  refine AW.r hT ?_
  refine AW.c (fun h => ?_) (fun h => ?_)
  · skip
    refine AW.seq ?_
    refine AW.r hT ?_
    refine AW.ret ?_
    simp only [go_sem, simprocAttr]
    exact ⟨_, _, rfl, by omega, by omega, _, rfl, by omega, fun _ => by omega⟩
  · skip
    have hn1 : 1 ≤ n := by omega
    have hb0 : 0 < bs.length := by have := h.2; simp at this; exact List.length_pos_iff.2 this
    refine AW.skip ?_
    refine AW.seq ?_
    refine AW.r hT ?_
    rw [hw2]
    refine AW.seq ?_
    refine AW.seq ?_
    refine AW.r hT ?_
    refine AW.c (fun h => ?_) (fun h => ?_)
    · skip
      refine AW.seq ?_
      refine AW.r hT ?_
      refine AW.ret ?_
      simp only [go_sem, simprocAttr]
      have hb := byte_get hbs p.toNat (by omega)
      rw [wrapId (by omega) (by omega)]
      have hz := tmod_range hb.1 hn1
      exact ⟨_, _, rfl, by omega, by omega, _, rfl, hz.1, fun _ => hz.2⟩
    · skip
      have hz := tmod_range (a := p) (n := bs.length) hp (by omega)
      have he7 : IntKind.i64.wrap (IntKind.i64.wrap (p * 7) + 3) = p * 7 + 3 := by rw [wrapId (n := p * 7) (by omega) (by omega), wrapId (by omega) (by omega)]
      have hz2 := tmod_range (a := p * 7 + 3) (n := bs.length) (by omega) (by omega)
      refine AW.skip ?_
      refine AW.seq ?_
      refine AW.draw hT 44 (by decide) ?_
      simp only [go_sem, simprocAttr]
      refine DL.fin (by simp only [go_sem, simprocAttr]; rfl) (by rw [he7]; (repeat' apply And.intro) <;> first | trivial | omega) ?_
      refine AL.e hT ?_
      rw [he7]
      have hb1 := byte_get hbs (p.tmod (bs.length : Int)).toNat (by omega)
      have hb2 := byte_get hbs ((p * 7 + 3).tmod (bs.length : Int)).toNat (by omega)
      have hq1 : 0 ≤ p.tdiv (bs.length : Int) := Int.tdiv_nonneg hp (by omega)
      have hq2 : p.tdiv (bs.length : Int) ≤ p := Int.tdiv_le_self _ hp
      generalize bs.getD (p.tmod (bs.length : Int)).toNat 0 = b1 at hb1 ⊢
      generalize bs.getD ((p * 7 + 3).tmod (bs.length : Int)).toNat 0 = b2 at hb2 ⊢
      generalize p.tdiv (bs.length : Int) = q at hq1 hq2 ⊢
      rw [wrapId (n := b1) (by omega) (by omega), wrapId (n := b2) (by omega) (by omega), wrapId (n := b1 * 131) (by omega) (by omega), wrapId (n := b2 * 1117) (by omega) (by omega), wrapId (n := p * 29) (by omega) (by omega), wrapId (n := q) (by omega) (by omega), wrapId (n := q * 53) (by omega) (by omega), wrapId (n := b1 * 131 + b2 * 1117) (by omega) (by omega), wrapId (n := b1 * 131 + b2 * 1117 + p * 29) (by omega) (by omega), wrapId (n := b1 * 131 + b2 * 1117 + p * 29 + q * 53) (by omega) (by omega)]
      obtain ⟨X, hX, hX0, hX1⟩ : ∃ X, X = b1 * 131 + b2 * 1117 + p * 29 + q * 53 ∧ 0 ≤ X ∧ X ≤ 1000000000000 := ⟨_, rfl, by omega, by omega⟩
      rw [← hX]
      refine AW.seq ?_
      refine AW.r hT ?_
      refine AW.seq ?_
      refine AW.r hT ?_
      refine AW.ret ?_
      simp only [go_sem, simprocAttr]
      have hd0 : 0 ≤ X.tdiv 64 := Int.tdiv_nonneg hX0 (by omega)
      have hd1 : X.tdiv 64 ≤ X := Int.tdiv_le_self _ hX0
      rw [wrapId (n := X.tdiv 64) (by omega) (by omega)]
      have hz := tmod_range (xor_nonneg X (X.tdiv 64) hX0 (by omega) hd0 (by omega)) hn1
      exact ⟨_, _, rfl, by omega, by omega, _, rfl, hz.1, fun _ => hz.2⟩
theorem c_spec_of (bs : List Int) (hbs : ∀ b ∈ bs, 0 ≤ b ∧ b ≤ 255) (p : Int) (hp : 0 ≤ p) (hp2 : p ≤ 1000000000) (xs : List ByteArray) (hx : 0 < xs.length) (hx2 : xs.length ≤ 1000) : GC Try.prog 52 [.box 66 [.d (.bytes bs), iv .i64 p]] [.ptr 0 0, .d (.strs xs)] (fun os r => ∃ p' more, os = .box 66 [.d (.bytes bs), iv .i64 p'] :: more ∧ p ≤ p' ∧ p' ≤ p + 1 ∧ (∃ s, r = sv s ∧ s ∈ xs)) := by
  refine GC.intro hT Try.func52 rfl (by decide) ?_
  intro F hF
  simp only [startAS, Try.f52, go_sem]
  refine AW.seq ?_
  refine AW.r hT ?_
  refine AW.seq ?_
  refine AW.region ?_
  refine AL.u hT ?_
  refine AL.cP (ob := 0) (c_spec_pick bs hbs p hp hp2 xs.length (by omega) (by omega)) ?_
  rintro os r ⟨p1, more, rfl, hp1, hp3, k, rfl, hk1, hk2⟩
  refine ⟨_, more, rfl, rfl, rfl, ?_⟩
  simp only [go_sem, simprocAttr]
  refine AL.e hT ?_
  refine AW.ret ?_
  simp only [go_sem, simprocAttr]
  exact ⟨_, _, rfl, by omega, by omega, _, rfl, getD_mem _ _ _ (by omega)⟩
theorem c_spec_num (bs : List Int) (hbs : ∀ b ∈ bs, 0 ≤ b ∧ b ≤ 255) (p : Int) (hp : 0 ≤ p) (hp2 : p ≤ 1000000000) (xs : List Int) (hx : 0 < xs.length) (hx2 : xs.length ≤ 1000) : GC Try.prog 51 [.box 66 [.d (.bytes bs), iv .i64 p]] [.ptr 0 0, .d (.ints xs)] (fun os r => ∃ p' more, os = .box 66 [.d (.bytes bs), iv .i64 p'] :: more ∧ p ≤ p' ∧ p' ≤ p + 1 ∧ (∃ s, r = iv .i64 s ∧ s ∈ xs)) := by
  refine GC.intro hT Try.func51 rfl (by decide) ?_
  intro F hF
  simp only [startAS, Try.f51, go_sem]
  refine AW.seq ?_
  refine AW.r hT ?_
  refine AW.seq ?_
  refine AW.region ?_
  refine AL.u hT ?_
  refine AL.cP (ob := 0) (c_spec_pick bs hbs p hp hp2 xs.length (by omega) (by omega)) ?_
  rintro os r ⟨p1, more, rfl, hp1, hp3, k, rfl, hk1, hk2⟩
  refine ⟨_, more, rfl, rfl, rfl, ?_⟩
  simp only [go_sem, simprocAttr]
  refine AL.e hT ?_
  refine AW.ret ?_
  simp only [go_sem, simprocAttr]
  exact ⟨_, _, rfl, by omega, by omega, _, rfl, getD_mem _ _ _ (by omega)⟩
end Go.Proofs.Ytlhfjjkoflpecaa

