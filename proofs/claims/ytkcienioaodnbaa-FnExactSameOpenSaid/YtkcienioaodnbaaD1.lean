import Derived.Test.YtkcienioaodnbaaTab
namespace Go.Proofs.Ytkcienioaodnbaa
open Go.Proofs.YtkcienioaodnbaaAw Go.RowKit
set_option linter.unusedVariables false
set_option linter.unusedSimpArgs false
set_option maxRecDepth 20000
set_option maxHeartbeats 2000000
attribute [local go_sem] runL stepL runQ stepQ isStop AV.closed AV.closedL clo guardB isCall objOp pureOp ops opo opv cellsOf leafB putT constAV fitC loadA cut storeA storeR splice fieldA indexA lenA slOf slOfD binA binI binS binB binG unA pickA convA nilCheckA extractA sliceA sliceD natA toP sliceStr indexStr szB buildSliceA partsA inOrder freezeL freeze1 freezeV freezeVs appendA makeA minA buildA fieldsA verOf dtAt Ob.ver Ob.dt Dt.isSl Dt.len Dt.sz Dt.el Dt.snoc Dt.app Dt.app2 Dt.sub Dt.withEl Dt.zeros mkDoc mkVal mkRow mkRows mkStr mkInt mkByte mkBool mkPiece mkItem asDocs asVals asStrs asInts asRows Doc.cells Val.cells Row.cells Piece.cells Item.cells Doc.eta Val.eta calleeA callArgs calleeO opoL Le LeL LeO LeB LeV AV.under AV.underL Dt.docs.injEq Dt.vals.injEq Dt.rows.injEq Dt.rowss.injEq Dt.strs.injEq Dt.ints.injEq Dt.bytes.injEq Dt.bools.injEq Dt.pieces.injEq Dt.items.injEq eq_self retK retOK resA oneV thenQ blockQ loopQ cutQ retQ retOQ T1 ti1 T2 ti2 T3 ti3 T4 ti4 T5 ti5 T6 ti6 T7 ti7 T8 ti8 T9 ti9 T10 ti10 T11 ti11 T12 ti12 T13 ti13 T14 ti14 T15 ti15 T16 ti16 T17 ti17 T18 ti18 T19 ti19 T21 ti21 T22 ti22 T23 ti23 T24 ti24 T26 ti26 T27 ti27 T28 ti28 T29 ti29 T30 ti30 T31 ti31 T32 ti32 T33 ti33 T34 ti34 T35 ti35 T36 ti36 T37 ti37 T38 ti38 T39 ti39 T40 ti40 T41 ti41 T42 ti42 T44 ti44 T45 ti45 T46 ti46 T47 ti47 T48 ti48 T49 ti49 T50 ti50 T51 ti51 T52 ti52 T53 ti53 T54 ti54 T55 ti55 T56 ti56 T57 ti57 T58 ti58 T59 ti59 T60 ti60 T61 ti61 T62 ti62 T63 ti63 T64 ti64 T65 ti65 T66 ti66 T67 ti67 T68 ti68 T69 ti69 T70 ti70 T71 ti71 T72 ti72 T73 ti73 T74 ti74 T75 ti75 T76 ti76 T77 ti77 T78 ti78 T79 ti79 T80 ti80 T81 ti81 T82 ti82 T83 ti83 T84 ti84 T85 ti85 T86 ti86 T87 ti87 T88 ti88 T89 ti89 T90 ti90 T91 ti91 T92 ti92 T93 ti93 T94 ti94 T95 ti95 T96 ti96 T97 ti97 T98 ti98 T99 ti99 T100 ti100 T101 ti101 T102 ti102 T103 ti103 T104 ti104 T105 ti105 T106 ti106 T107 ti107 T108 ti108 T109 ti109 T110 ti110 T111 ti111 T112 ti112 T113 ti113 T114 ti114 T115 ti115 T116 ti116 T118 ti118 T119 ti119 T121 ti121 T122 ti122 T123 ti123 T124 ti124 T125 ti125 T126 ti126 T127 ti127 T131 ti131 T132 ti132 T133 ti133 T134 ti134 T135 ti135 T136 ti136 T137 ti137 T138 ti138 T139 ti139 T140 ti140 T120 ti120
attribute [local go_sem] runV AV.avoid AV.avoidL toH toH1 frH frH1 idx backs imps bump conv handB pickO all_some all_none false_implies implies_true Bool.not_true Bool.not_false Bool.or_true Bool.true_or Bool.or_false Bool.false_or List.getD_cons_zero List.getD_cons_succ List.getD_nil List.set_cons_zero List.set_cons_succ List.length_cons List.length_nil List.nil_append List.cons_append List.append_nil List.all_cons List.all_nil List.map_cons List.map_nil Bool.and_self Bool.and_true Bool.true_and if_true if_false ite_true ite_false Option.bind_some Option.bind_none Option.map_some Option.map_none Option.getD_some Option.getD_none List.getElem?_cons_zero List.getElem?_cons_succ List.getElem?_nil List.drop_zero List.drop_succ_cons List.drop_nil List.take_succ_cons List.take_zero List.take_nil Bool.false_eq_true Bool.cond_true_left Bool.cond_false_right beq_self_eq_true decide_true decide_false and_true true_and and_self List.toList_toArray reduceCtorEq List.replicate startAS Int.toNat_natCast



theorem wrapId {n : Int} (h : -9223372036854775808 ≤ n) (h' : n ≤ 9223372036854775807) : IntKind.i64.wrap n = n := by
  rw [IntKind.wrap_i64]; omega
theorem take_snocD {α : Type} (l : List α) (i : Nat) (d : α) (h : i < l.length) : l.take (i + 1) = l.take i ++ [l.getD i d] := by
  rw [List.take_succ_eq_append_getElem h, List.getD_eq_getElem?_getD, List.getElem?_eq_getElem h]; rfl
theorem getD_lt {α : Type} [SizeOf α] (xs : List α) (d : α) (i : Nat) (h : i < xs.length) : SizeOf.sizeOf (xs.getD i d) < SizeOf.sizeOf xs := by
  have := List.sizeOf_lt_of_mem (List.getElem_mem h)
  rw [List.getD_eq_getElem?_getD, List.getElem?_eq_getElem h]
  exact this
/-- The first i are written. -/
def mix {α : Type} (d : α) (xs : List α) (i : Nat) : List α := xs.take i ++ List.replicate (xs.length - i) d
theorem mix_len {α : Type} (d : α) (xs : List α) (i : Nat) (h : i ≤ xs.length) : (mix d xs i).length = xs.length := by
  simp [mix]; omega
theorem mix_zero {α : Type} (d : α) (xs : List α) : mix d xs 0 = List.replicate xs.length d := by simp [mix]
theorem mix_all {α : Type} (d : α) (xs : List α) : mix d xs xs.length = xs := by simp [mix]
theorem mix_set {α : Type} (d : α) (xs : List α) (i : Nat) (h : i < xs.length) : (mix d xs i).set i (xs.getD i d) = mix d xs (i + 1) := by
  unfold mix
  rw [take_snocD xs i d h, List.set_append, if_neg (by simp; omega)]
  have : xs.length - i = (xs.length - (i + 1)) + 1 := by omega
  rw [this, List.replicate_succ]
  simp [Nat.min_eq_left (Nat.le_of_lt h)]
/-- Two lists of one length that are alike so far, and on. -/
theorem take_eq_succ {α : Type} {xs ys : List α} {i : Nat} (d : α) (hl : xs.length = ys.length) (h : i < xs.length) : xs.take (i + 1) = ys.take (i + 1) ↔ xs.take i = ys.take i ∧ xs.getD i d = ys.getD i d := by
  rw [take_snocD xs i d h, take_snocD ys i d (hl ▸ h)]
  constructor
  · intro e
    have := List.append_inj' e rfl
    simpa using this
  · rintro ⟨e1, e2⟩; rw [e1, e2]
theorem ne_of_getD {α : Type} {xs ys : List α} {i : Nat} {d : α} (h : ¬ xs.getD i d = ys.getD i d) : ¬ xs = ys := fun e => h (by rw [e])
theorem eq_of_take {α : Type} {xs ys : List α} {i : Nat} (hi : i = xs.length) (hl : xs.length = ys.length) (h : xs.take i = ys.take i) : xs = ys := by
  subst hi; rw [List.take_length] at h; rw [hl, List.take_length] at h; exact h


/-! ### Documents -/
mutual
def dsz : Doc → Int
  | ⟨_, _, s, kids⟩ => s.size + (kids.length + dsum kids)
def dsum : List Doc → Int
  | [] => 0
  | x :: xs => dsz x + dsum xs
end
theorem dsum_append (a b : List Doc) : dsum (a ++ b) = dsum a + dsum b := by
  induction a with
  | nil => simp [dsum]
  | cons x a ih => simp only [List.cons_append, dsum, ih]; omega
mutual
theorem dsz_nonneg : ∀ v, 0 ≤ dsz v
  | ⟨_, _, w, kids⟩ => by have := dsum_nonneg kids; simp only [dsz]; omega
theorem dsum_nonneg : ∀ xs, 0 ≤ dsum xs
  | [] => Int.le_refl _
  | x :: xs => by have := dsz_nonneg x; have := dsum_nonneg xs; simp only [dsum]; omega
end
theorem dsz_eq (v : Doc) : dsz v = v.text.size + (v.kids.length + dsum v.kids) := by cases v; rfl
theorem dsum_get (xs : List Doc) (i : Nat) (h : i < xs.length) : dsz (xs.getD i default) ≤ dsum xs := by
  induction xs generalizing i with
  | nil => simp at h
  | cons x xs ih =>
    have h1 := dsz_nonneg x
    have h2 := dsum_nonneg xs
    cases i with
    | zero => simp only [List.getD_cons_zero, dsum]; omega
    | succ i =>
      have := ih i (by simpa using h)
      simp only [List.getD_cons_succ, dsum]; omega
theorem Doc.kids_lt (v : Doc) : SizeOf.sizeOf v.kids < SizeOf.sizeOf v := by cases v; simp; omega
theorem Doc.kid_lt (v : Doc) (i : Nat) (h : i < v.kids.length) : SizeOf.sizeOf (v.kids.getD i default) < SizeOf.sizeOf v := by
  have := getD_lt v.kids default i h
  have := Doc.kids_lt v
  omega
mutual
def deq : Doc → Doc → Bool
  | ⟨o, n, s, cs⟩, ⟨o', n', s', cs'⟩ => decide (o = o') && decide (n = n') && decide (s = s') && deqs cs cs'
def deqs : List Doc → List Doc → Bool
  | [], [] => true
  | x :: xs, y :: ys => deq x y && deqs xs ys
  | _, _ => false
end
mutual
theorem deq_iff : ∀ a b : Doc, deq a b = true ↔ a = b
  | ⟨k, w, ks, cs⟩, ⟨k', w', ks', cs'⟩ => by
      have := deqs_iff cs cs'
      simp only [deq, Bool.and_eq_true, decide_eq_true_eq, this, Doc.mk.injEq, and_assoc]
theorem deqs_iff : ∀ xs ys : List Doc, deqs xs ys = true ↔ xs = ys
  | [], [] => by simp [deqs]
  | [], _ :: _ => by simp [deqs]
  | _ :: _, [] => by simp [deqs]
  | x :: xs, y :: ys => by
      have h1 := deq_iff x y
      have h2 := deqs_iff xs ys
      simp only [deqs, Bool.and_eq_true, h1, h2, List.cons.injEq]
end
theorem deq_ne {a b : Doc} (h : ¬ a = b) : deq a b = false := by rw [← Bool.not_eq_true, deq_iff]; exact h
theorem deqs_ne {a b : List Doc} (h : ¬ a = b) : deqs a b = false := by rw [← Bool.not_eq_true, deqs_iff]; exact h
theorem deq_same {a b : Doc} (h : a = b) : deq a b = true := (deq_iff a b).2 h
theorem deqs_same {a b : List Doc} (h : a = b) : deqs a b = true := (deqs_iff a b).2 h
theorem deq_false {a b : Doc} : deq a b = false ↔ ¬ a = b := by rw [← Bool.not_eq_true, deq_iff]

mutual
theorem c_laws_szDoc (v : Doc) (left : Int) (h0 : 0 ≤ left) (h1 : left ≤ 4611686018427387904) : PC Try.prog 19 [.agg (v.cells.map .d), iv .i64 left] (fun r => ∃ n, r = iv .i64 n ∧ n ≤ left ∧ (0 ≤ n → n = left - dsz v)) := by
  refine PC.intro hT Try.func19 rfl (by decide) ?_
  intro F hF
  simp only [startAS, Try.f19, go_sem]
  refine AW.know fun hfit => ?_
  simp only [go_sem, fitsL, fits, fitsO, Nat.reduceAdd] at hfit
  have hlen : v.text.size ≤ maxLen := by simp only [hfit]
  unfold maxLen at hlen
  clear hfit
  have hw : IntKind.i64.wrap (left - (v.text.size : Int)) = left - v.text.size := wrapId (by omega) (by omega)
  refine AW.seq ?_
  refine AW.r hT ?_
  refine AW.seq ?_
  refine AW.r hT ?_
  rw [hw]
  refine AW.seq ?_
  refine AW.seq ?_
  refine AW.r hT ?_
  refine AW.c (fun h => ?_) (fun h => ?_)
  · skip
    refine AW.seq ?_
    refine AW.r hT ?_
    refine AW.ret ?_
    simp only [go_sem, simprocAttr]
    exact ⟨_, rfl, by omega, by omega⟩
  · skip
    refine AW.skip ?_
    refine AW.seq ?_
    refine AW.region ?_
    refine AL.u hT ?_
    refine AL.c (c_laws_szDocS v.kids (left - v.text.size) (by omega) (by omega)) ?_
    rintro r ⟨n1, rfl, hn1, hn2⟩
    refine AL.e hT ?_
    refine AW.seq ?_
    refine AW.seq ?_
    refine AW.r hT ?_
    refine AW.c (fun h => ?_) (fun h => ?_)
    · skip
      refine AW.seq ?_
      refine AW.r hT ?_
      refine AW.ret ?_
      simp only [go_sem, simprocAttr]
      exact ⟨_, rfl, by omega, by omega⟩
    · skip
      refine AW.skip ?_
      refine AW.seq ?_
      refine AW.r hT ?_
      refine AW.ret ?_
      simp only [go_sem, simprocAttr]
      refine ⟨_, rfl, by omega, fun _ => ?_⟩
      have := hn2 (by omega)
      rw [dsz_eq]; omega
termination_by SizeOf.sizeOf v
decreasing_by exact Doc.kids_lt v
theorem c_laws_szDocS (xs : List Doc) (left : Int) (h0 : 0 ≤ left) (h1 : left ≤ 4611686018427387904) : PC Try.prog 29 [.d (.docs xs), iv .i64 left] (fun r => ∃ n, r = iv .i64 n ∧ n ≤ left ∧ (0 ≤ n → n = left - (xs.length + dsum xs))) := by
  refine PC.intro hT Try.func29 rfl (by decide) ?_
  intro F hF
  simp only [startAS, Try.f29, go_sem]
  refine AW.know fun hfit => ?_
  have hlen : xs.length ≤ maxLen := hfit.1
  unfold maxLen at hlen
  clear hfit
  have hw : IntKind.i64.wrap (left - (xs.length : Int)) = left - xs.length := wrapId (by omega) (by omega)
  refine AW.seq ?_
  refine AW.r hT ?_
  refine AW.seq ?_
  refine AW.r hT ?_
  rw [hw]
  refine AW.seq ?_
  refine AW.seq ?_
  refine AW.r hT ?_
  refine AW.c (fun h => ?_) (fun h => ?_)
  · skip
    refine AW.seq ?_
    refine AW.r hT ?_
    refine AW.ret ?_
    simp only [go_sem, simprocAttr]
    exact ⟨_, rfl, by omega, by omega⟩
  · skip
    refine AW.skip ?_
    refine AW.seq ?_
    refine AW.seq ?_
    refine AW.r hT ?_
    refine AW.block ?_
    refine AW.loop (ι := Nat) (fun i => i ≤ xs.length ∧ 0 ≤ left - xs.length - dsum (xs.take i)) (fun i => ⟨[.d (.docs xs), iv .i64 (left - xs.length - dsum (xs.take i)), .dead, .dead, .dead, iv .i64 i] ++ List.replicate 21 .dead, []⟩) (fun i => xs.length - i) 0 ⟨Nat.zero_le _, by simp [dsum]; omega⟩ (fun _ => by rw [hF]; first | exact Nat.zero_le _ | simp) ?_ ?_
    · simp only [go_sem, simprocAttr]
      all_goals (simp [dsum])
    · intro i hi
      have hi1 := hi.1
      have hi2 := hi.2
      refine AW.seq ?_
      refine AW.seq ?_
      refine AW.r hT ?_
      refine AW.c (fun h => ?_) (fun h => ?_)
      · skip
        have hlt : i < xs.length := by omega
        have htk : dsum (xs.take (i + 1)) = dsum (xs.take i) + dsz (xs.getD i default) := by
          rw [take_snocD xs i default hlt, dsum_append]; simp [dsum]
        have hn := dsum_nonneg (xs.take i)
        refine AW.skip ?_
        refine AW.seq ?_
        refine AW.block ?_
        refine AW.seq ?_
        refine AW.region ?_
        refine AL.u hT ?_
        refine AL.c (c_laws_szDoc (xs.getD i default) (left - xs.length - dsum (xs.take i)) (by omega) (by omega)) ?_
        rintro r ⟨n1, rfl, hn1, hn2⟩
        refine AL.e hT ?_
        refine AW.seq ?_
        refine AW.r hT ?_
        refine AW.c (fun h => ?_) (fun h => ?_)
        · skip
          refine AW.seq ?_
          refine AW.r hT ?_
          refine AW.ret ?_
          simp only [go_sem, simprocAttr]
          exact ⟨_, rfl, by omega, by omega⟩
        · skip
          have hn3 := hn2 (by omega)
          refine AW.skip ?_
          refine AW.r hT ?_
          refine ⟨i + 1, ⟨by omega, by rw [htk]; omega⟩, (by show _ - (i + 1) < _ - i; omega), ?_⟩
          simp only [go_sem, simprocAttr]
          rw [htk, wrapId (by omega) (by omega)]
          exact ⟨by omega, by omega⟩
      · skip
        refine AW.exit ?_
        simp only [go_sem, simprocAttr]
        refine AW.seq ?_
        refine AW.r hT ?_
        refine AW.ret ?_
        simp only [go_sem, simprocAttr]
        have hi' : i = xs.length := by omega
        refine ⟨_, rfl, ?_, fun _ => ?_⟩
        · have := dsum_nonneg (xs.take i); omega
        · rw [hi', List.take_length]; omega
termination_by SizeOf.sizeOf xs
decreasing_by exact getD_lt xs _ i hlt
end
mutual
theorem c_laws_toDoc (v : Doc) (hn : dsz v ≤ 1073741824) : PC Try.prog 21 [.agg (v.cells.map .d)] (fun r => r = .agg (v.cells.map .d)) := by
  have hz := dsz_eq v
  have hk2 := dsum_nonneg v.kids
  refine PC.intro hT Try.func21 rfl (by decide) ?_
  intro F hF
  simp only [startAS, Try.f21, go_sem]
  refine AW.seq ?_
  refine AW.r hT ?_
  refine AW.seq ?_
  refine AW.r hT ?_
  refine AW.seq ?_
  refine AW.r hT ?_
  refine AW.seq ?_
  refine AW.r hT ?_
  refine AW.seq ?_
  refine AW.r hT ?_
  refine AW.seq ?_
  refine AW.region ?_
  refine AL.u hT ?_
  refine AL.c (c_laws_toDocS v.kids (by omega)) ?_
  rintro r rfl
  refine AL.e hT ?_
  refine AW.seq ?_
  refine AW.r hT ?_
  refine AW.ret ?_
  simp only [go_sem, simprocAttr]
termination_by SizeOf.sizeOf v
decreasing_by exact Doc.kids_lt v
theorem c_laws_toDocS (xs : List Doc) (hn : xs.length + dsum xs ≤ 1073741824) : PC Try.prog 31 [.d (.docs xs)] (fun r => r = .d (.docs xs)) := by
  have hk2 := dsum_nonneg xs
  refine PC.intro hT Try.func31 rfl (by decide) ?_
  intro F hF
  simp only [startAS, Try.f31, go_sem]
  refine AW.seq ?_
  refine AW.r hT ?_
  refine AW.seq ?_
  refine AW.r hT ?_
  refine AW.seq ?_
  refine AW.seq ?_
  refine AW.r hT ?_
  refine AW.block ?_
  refine AW.loop (ι := Nat) (fun i => i ≤ xs.length) (fun i => ⟨[.d (.docs xs), .dead, .dead, .row 0 0, iv .i64 i] ++ List.replicate 18 .dead, [.row 24 (.docs (mix default xs i)) 0]⟩) (fun i => xs.length - i) 0 (Nat.zero_le _) (fun _ => by rw [hF]; first | exact Nat.zero_le _ | simp) ?_ ?_
  · simp only [go_sem, simprocAttr]
    all_goals (simp [mix_zero])
  · intro i hi
    refine AW.seq ?_
    refine AW.seq ?_
    refine AW.r hT ?_
    refine AW.c (fun h => ?_) (fun h => ?_)
    · skip
      have hlt : i < xs.length := by omega
      have hg := dsum_get xs i hlt
      have hm := mix_len default xs i hi
      refine AW.skip ?_
      refine AW.seq ?_
      refine AW.block ?_
      refine AW.region ?_
      refine AL.u hT ?_
      refine AL.c (c_laws_toDoc (xs.getD i default) (by omega)) ?_
      rintro r rfl
      refine AL.e hT ?_
      refine AW.r hT ?_
      refine ⟨i + 1, by omega, (by show _ - (i + 1) < _ - i; omega), ?_⟩
      simp only [go_sem, simprocAttr]
      rw [mix_set default xs i (by omega), wrapId (by omega) (by omega)]
      exact ⟨by omega, rfl⟩
    · skip
      refine AW.exit ?_
      simp only [go_sem, simprocAttr]
      refine AW.seq ?_
      refine AW.r hT ?_
      refine AW.ret ?_
      simp only [go_sem, simprocAttr]
      obtain rfl : i = xs.length := by omega
      rw [mix_all]
termination_by SizeOf.sizeOf xs
decreasing_by exact getD_lt xs _ i hlt
end
mutual
theorem c_laws_eqDoc (a b : Doc) : PC Try.prog 16 [.agg (a.cells.map .d), .agg (b.cells.map .d)] (fun r => r = bv (deq a b)) := by
  refine PC.intro hT Try.func16 rfl (by decide) ?_
  intro F hF
  simp only [startAS, Try.f16, go_sem]
  refine AW.seq ?_
  refine AW.r hT ?_
  have g0 := a.op
  refine AW.seq ?_
  refine AW.seq ?_
  refine AW.r hT ?_
  refine AW.c (fun h => ?_) (fun h => ?_)
  · skip
    refine AW.seq ?_
    refine AW.r hT ?_
    refine AW.ret ?_
    simp only [go_sem, simprocAttr]
    rw [deq_ne (fun e => h (by rw [e]))]
  · skip
    have h1 := h
    refine AW.skip ?_
    refine AW.seq ?_
    refine AW.seq ?_
    refine AW.r hT ?_
    refine AW.c (fun h => ?_) (fun h => ?_)
    · skip
      refine AW.seq ?_
      refine AW.r hT ?_
      refine AW.ret ?_
      simp only [go_sem, simprocAttr]
      rw [deq_ne (fun e => h (by rw [e]))]
    · skip
      have h2 := h
      refine AW.skip ?_
      refine AW.seq ?_
      refine AW.seq ?_
      refine AW.r hT ?_
      refine AW.c (fun h => ?_) (fun h => ?_)
      · skip
        refine AW.seq ?_
        refine AW.r hT ?_
        refine AW.ret ?_
        simp only [go_sem, simprocAttr]
        rw [deq_ne (fun e => h (by rw [e]))]
      · skip
        have h3 := h
        refine AW.skip ?_
        refine AW.seq ?_
        refine AW.seq ?_
        refine AW.region ?_
        refine AL.u hT ?_
        refine AL.c (c_laws_eqDocS a.kids b.kids) ?_
        rintro r rfl
        refine AL.e hT ?_
        refine AW.c (fun h => ?_) (fun h => ?_)
        · skip
          refine AW.seq ?_
          refine AW.r hT ?_
          refine AW.ret ?_
          simp only [go_sem, simprocAttr]
          rw [deq_ne (fun e => (by simp [deqs_same (congrArg Doc.kids e)] at h))]
        · skip
          have h4 := h
          refine AW.skip ?_
          refine AW.seq ?_
          refine AW.r hT ?_
          refine AW.ret ?_
          simp only [go_sem, simprocAttr]
          rw [deq_same]
          obtain ⟨k, w, ks, cs⟩ := a
          obtain ⟨k2, w2, ks2, cs2⟩ := b
          have h5 := (deqs_iff _ _).1 h4
          simp only at h1 h2 h3 h5
          subst h1; subst h2; subst h3; subst h5; rfl
termination_by SizeOf.sizeOf a
decreasing_by exact Doc.kids_lt a
theorem c_laws_eqDocS (xs ys : List Doc) : PC Try.prog 33 [.d (.docs xs), .d (.docs ys)] (fun r => r = bv (deqs xs ys)) := by
  refine PC.intro hT Try.func33 rfl (by decide) ?_
  intro F hF
  simp only [startAS, Try.f33, go_sem]
  refine AW.know fun hfit => ?_
  have hlen : xs.length ≤ maxLen := hfit.1
  unfold maxLen at hlen
  clear hfit
  refine AW.seq ?_
  refine AW.r hT ?_
  refine AW.seq ?_
  refine AW.seq ?_
  refine AW.r hT ?_
  refine AW.c (fun h => ?_) (fun h => ?_)
  · skip
    refine AW.seq ?_
    refine AW.r hT ?_
    refine AW.ret ?_
    simp only [go_sem, simprocAttr]
    rw [deqs_ne (fun e => h (by rw [e]))]
  · skip
    have hl : xs.length = ys.length := by omega
    refine AW.skip ?_
    refine AW.seq ?_
    refine AW.seq ?_
    refine AW.r hT ?_
    refine AW.block ?_
    refine AW.loop (ι := Nat) (fun i => i ≤ xs.length ∧ xs.take i = ys.take i) (fun i => ⟨[.d (.docs xs), .d (.docs ys), .dead, .dead, .dead, iv .i64 i] ++ List.replicate 21 .dead, []⟩) (fun i => xs.length - i) 0 ⟨Nat.zero_le _, by simp⟩ (fun _ => by rw [hF]; first | exact Nat.zero_le _ | simp) ?_ ?_
    · simp only [go_sem, simprocAttr]
      all_goals (rfl)
    · intro i hi
      have hi1 := hi.1
      refine AW.seq ?_
      refine AW.seq ?_
      refine AW.r hT ?_
      refine AW.c (fun h => ?_) (fun h => ?_)
      · skip
        have hlt : i < xs.length := by omega
        refine AW.skip ?_
        refine AW.seq ?_
        refine AW.block ?_
        refine AW.seq ?_
        refine AW.draw hT 8 (by decide) ?_
        simp only [go_sem, simprocAttr]
        refine DL.e ?_
        refine AL.c (c_laws_eqDoc (xs.getD i default) (ys.getD i default)) ?_
        rintro r rfl
        refine AL.e hT ?_
        refine AW.c (fun h => ?_) (fun h => ?_)
        · skip
          refine AW.seq ?_
          refine AW.r hT ?_
          refine AW.ret ?_
          simp only [go_sem, simprocAttr]
          rw [deqs_ne (ne_of_getD (deq_false.1 h))]
        · skip
          refine AW.skip ?_
          refine AW.r hT ?_
          refine ⟨i + 1, ⟨by omega, (take_eq_succ _ hl hlt).2 ⟨hi.2, (deq_iff _ _).1 h⟩⟩, (by show _ - (i + 1) < _ - i; omega), ?_⟩
          simp only [go_sem, simprocAttr]
          rw [wrapId (by omega) (by omega)]
          omega
      · skip
        have e := eq_of_take (by omega) hl hi.2
        refine AW.exit ?_
        simp only [go_sem, simprocAttr]
        refine AW.seq ?_
        refine AW.r hT ?_
        refine AW.ret ?_
        simp only [go_sem, simprocAttr]
        rw [deqs_same e]
termination_by SizeOf.sizeOf xs
decreasing_by exact getD_lt xs _ i hlt
end
end Go.Proofs.Ytkcienioaodnbaa

