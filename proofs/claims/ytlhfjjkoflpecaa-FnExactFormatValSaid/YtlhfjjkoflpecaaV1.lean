import Derived.Test.YtlhfjjkoflpecaaTab
namespace Go.Proofs.Ytlhfjjkoflpecaa
open Go.Proofs.YtlhfjjkoflpecaaAw Go.RowKit
set_option linter.unusedVariables false
set_option linter.unusedSimpArgs false
set_option maxRecDepth 20000
set_option maxHeartbeats 2000000
attribute [local go_sem] runL stepL runQ stepQ isStop AV.closed AV.closedL clo guardB isCall objOp pureOp ops opo opv cellsOf leafB putT constAV fitC loadA cut storeA storeR splice fieldA indexA lenA slOf slOfD binA binI binS binB binG unA pickA convA nilCheckA extractA sliceA sliceD natA toP sliceStr indexStr szB buildSliceA partsA inOrder freezeL freeze1 freezeV freezeVs appendA makeA minA buildA fieldsA verOf dtAt Ob.ver Ob.dt Dt.isSl Dt.len Dt.sz Dt.el Dt.snoc Dt.app Dt.app2 Dt.sub Dt.withEl Dt.zeros mkDoc mkVal mkRow mkRows mkStr mkInt mkByte mkBool mkPiece mkItem asDocs asVals asStrs asInts asRows Doc.cells Val.cells Row.cells Piece.cells Item.cells Doc.eta Val.eta calleeA callArgs calleeO opoL Le LeL LeO LeB LeV AV.under AV.underL Dt.docs.injEq Dt.vals.injEq Dt.rows.injEq Dt.rowss.injEq Dt.strs.injEq Dt.ints.injEq Dt.bytes.injEq Dt.bools.injEq Dt.pieces.injEq Dt.items.injEq eq_self retK retOK resA oneV thenQ blockQ loopQ cutQ retQ retOQ T1 ti1 T2 ti2 T3 ti3 T4 ti4 T5 ti5 T6 ti6 T7 ti7 T8 ti8 T9 ti9 T10 ti10 T11 ti11 T12 ti12 T13 ti13 T14 ti14 T15 ti15 T16 ti16 T17 ti17 T18 ti18 T19 ti19 T21 ti21 T22 ti22 T23 ti23 T24 ti24 T25 ti25 T26 ti26 T27 ti27 T28 ti28 T29 ti29 T30 ti30 T31 ti31 T32 ti32 T33 ti33 T34 ti34 T35 ti35 T36 ti36 T37 ti37 T39 ti39 T40 ti40 T41 ti41 T42 ti42 T43 ti43 T44 ti44 T45 ti45 T46 ti46 T47 ti47 T48 ti48 T49 ti49 T50 ti50 T51 ti51 T52 ti52 T53 ti53 T54 ti54 T55 ti55 T56 ti56 T57 ti57 T58 ti58 T59 ti59 T60 ti60 T61 ti61 T62 ti62 T63 ti63 T64 ti64 T65 ti65 T66 ti66 T67 ti67 T68 ti68 T70 ti70 T71 ti71 T72 ti72 T73 ti73 T74 ti74 T75 ti75 T76 ti76 T77 ti77 T78 ti78 T79 ti79 T83 ti83 T84 ti84 T85 ti85 T86 ti86 T87 ti87 T88 ti88 T90 ti90 T91 ti91 T92 ti92 T93 ti93 T97 ti97 T98 ti98 T99 ti99 T100 ti100 T101 ti101 T102 ti102 T103 ti103 T104 ti104 T105 ti105 T106 ti106 T107 ti107
attribute [local go_sem] runV AV.avoid AV.avoidL toH toH1 frH frH1 idx backs imps bump conv handB pickO all_some all_none false_implies implies_true Bool.not_true Bool.not_false Bool.or_true Bool.true_or Bool.or_false Bool.false_or List.getD_cons_zero List.getD_cons_succ List.getD_nil List.set_cons_zero List.set_cons_succ List.length_cons List.length_nil List.nil_append List.cons_append List.append_nil List.all_cons List.all_nil List.map_cons List.map_nil Bool.and_self Bool.and_true Bool.true_and if_true if_false ite_true ite_false Option.bind_some Option.bind_none Option.map_some Option.map_none Option.getD_some Option.getD_none List.getElem?_cons_zero List.getElem?_cons_succ List.getElem?_nil List.drop_zero List.drop_succ_cons List.drop_nil List.take_succ_cons List.take_zero List.take_nil Bool.false_eq_true Bool.cond_true_left Bool.cond_false_right beq_self_eq_true decide_true decide_false and_true true_and and_self List.toList_toArray reduceCtorEq List.replicate startAS Int.toNat_natCast



theorem wrapId {n : Int} (h : -9223372036854775808 ≤ n) (h' : n ≤ 9223372036854775807) : IntKind.i64.wrap n = n := by
  rw [IntKind.wrap_i64]; omega
theorem take_snocD {α : Type} (l : List α) (i : Nat) (d : α) (h : i < l.length) : l.take (i + 1) = l.take i ++ [l.getD i d] := by
  rw [List.take_succ_eq_append_getElem h, List.getD_eq_getElem?_getD, List.getElem?_eq_getElem h]; rfl
theorem getD_lt {α : Type} [SizeOf α] (xs : List α) (d : α) (i : Nat) (h : i < xs.length) : SizeOf.sizeOf (xs.getD i d) < SizeOf.sizeOf xs := by
  have := List.sizeOf_lt_of_mem (List.getElem_mem h)
  rw [List.getD_eq_getElem?_getD, List.getElem?_eq_getElem h]
  exact this
/-- The first i are written. -/
def mix {α : Type} (d : α) (xs : List α) (i : Nat) : List α := xs.take i ++ List.replicate (xs.length - i) d
theorem mix_len {α : Type} (d : α) (xs : List α) (i : Nat) (h : i ≤ xs.length) : (mix d xs i).length = xs.length := by
  simp [mix]; omega
theorem mix_zero {α : Type} (d : α) (xs : List α) : mix d xs 0 = List.replicate xs.length d := by simp [mix]
theorem mix_all {α : Type} (d : α) (xs : List α) : mix d xs xs.length = xs := by simp [mix]
theorem mix_set {α : Type} (d : α) (xs : List α) (i : Nat) (h : i < xs.length) : (mix d xs i).set i (xs.getD i d) = mix d xs (i + 1) := by
  unfold mix
  rw [take_snocD xs i d h, List.set_append, if_neg (by simp; omega)]
  have : xs.length - i = (xs.length - (i + 1)) + 1 := by omega
  rw [this, List.replicate_succ]
  simp [Nat.min_eq_left (Nat.le_of_lt h)]
/-- Two lists of one length that are alike so far, and on. -/
theorem take_eq_succ {α : Type} {xs ys : List α} {i : Nat} (d : α) (hl : xs.length = ys.length) (h : i < xs.length) : xs.take (i + 1) = ys.take (i + 1) ↔ xs.take i = ys.take i ∧ xs.getD i d = ys.getD i d := by
  rw [take_snocD xs i d h, take_snocD ys i d (hl ▸ h)]
  constructor
  · intro e
    have := List.append_inj' e rfl
    simpa using this
  · rintro ⟨e1, e2⟩; rw [e1, e2]
theorem ne_of_getD {α : Type} {xs ys : List α} {i : Nat} {d : α} (h : ¬ xs.getD i d = ys.getD i d) : ¬ xs = ys := fun e => h (by rw [e])
theorem eq_of_take {α : Type} {xs ys : List α} {i : Nat} (hi : i = xs.length) (hl : xs.length = ys.length) (h : xs.take i = ys.take i) : xs = ys := by
  subst hi; rw [List.take_length] at h; rw [hl, List.take_length] at h; exact h


/-! ### Values -/
def ssum : List ByteArray → Int
  | [] => 0
  | x :: xs => x.size + ssum xs
theorem ssum_append (a b : List ByteArray) : ssum (a ++ b) = ssum a + ssum b := by
  induction a with
  | nil => simp [ssum]
  | cons x a ih => simp only [List.cons_append, ssum, ih]; omega
def ssz (xs : List ByteArray) : Int := xs.length + ssum xs
mutual
def vsz : Val → Int
  | ⟨_, w, keys, kids⟩ => w.size + ssz keys + (kids.length + vsum kids)
def vsum : List Val → Int
  | [] => 0
  | x :: xs => vsz x + vsum xs
end
theorem vsum_append (a b : List Val) : vsum (a ++ b) = vsum a + vsum b := by
  induction a with
  | nil => simp [vsum]
  | cons x a ih => simp only [List.cons_append, vsum, ih]; omega
theorem ssum_nonneg : ∀ xs, 0 ≤ ssum xs
  | [] => Int.le_refl _
  | x :: xs => by have := ssum_nonneg xs; simp only [ssum]; omega
mutual
theorem vsz_nonneg : ∀ v, 0 ≤ vsz v
  | ⟨_, w, keys, kids⟩ => by have := vsum_nonneg kids; have := ssum_nonneg keys; simp only [vsz, ssz]; omega
theorem vsum_nonneg : ∀ xs, 0 ≤ vsum xs
  | [] => Int.le_refl _
  | x :: xs => by have := vsz_nonneg x; have := vsum_nonneg xs; simp only [vsum]; omega
end
theorem vsz_eq (v : Val) : vsz v = v.word.size + ssz v.keys + (v.kids.length + vsum v.kids) := by cases v; rfl
theorem vsum_get (xs : List Val) (i : Nat) (h : i < xs.length) : vsz (xs.getD i default) ≤ vsum xs := by
  induction xs generalizing i with
  | nil => simp at h
  | cons x xs ih =>
    have h1 := vsz_nonneg x
    have h2 := vsum_nonneg xs
    cases i with
    | zero => simp only [List.getD_cons_zero, vsum]; omega
    | succ i =>
      have := ih i (by simpa using h)
      simp only [List.getD_cons_succ, vsum]; omega
theorem Val.kids_lt (v : Val) : SizeOf.sizeOf v.kids < SizeOf.sizeOf v := by cases v; simp; omega
theorem Val.kid_lt (v : Val) (i : Nat) (h : i < v.kids.length) : SizeOf.sizeOf (v.kids.getD i default) < SizeOf.sizeOf v := by
  have := getD_lt v.kids default i h
  have := Val.kids_lt v
  omega
mutual
def veq : Val → Val → Bool
  | ⟨k, w, ks, cs⟩, ⟨k', w', ks', cs'⟩ => decide (k = k') && decide (w = w') && decide (ks = ks') && veqs cs cs'
def veqs : List Val → List Val → Bool
  | [], [] => true
  | x :: xs, y :: ys => veq x y && veqs xs ys
  | _, _ => false
end
mutual
theorem veq_iff : ∀ a b : Val, veq a b = true ↔ a = b
  | ⟨k, w, ks, cs⟩, ⟨k', w', ks', cs'⟩ => by
      have := veqs_iff cs cs'
      simp only [veq, Bool.and_eq_true, decide_eq_true_eq, this, Val.mk.injEq, and_assoc]
theorem veqs_iff : ∀ xs ys : List Val, veqs xs ys = true ↔ xs = ys
  | [], [] => by simp [veqs]
  | [], _ :: _ => by simp [veqs]
  | _ :: _, [] => by simp [veqs]
  | x :: xs, y :: ys => by
      have h1 := veq_iff x y
      have h2 := veqs_iff xs ys
      simp only [veqs, Bool.and_eq_true, h1, h2, List.cons.injEq]
end
theorem veq_ne {a b : Val} (h : ¬ a = b) : veq a b = false := by rw [← Bool.not_eq_true, veq_iff]; exact h
theorem veqs_ne {a b : List Val} (h : ¬ a = b) : veqs a b = false := by rw [← Bool.not_eq_true, veqs_iff]; exact h
theorem veq_same {a b : Val} (h : a = b) : veq a b = true := (veq_iff a b).2 h
theorem veqs_same {a b : List Val} (h : a = b) : veqs a b = true := (veqs_iff a b).2 h
theorem veq_false {a b : Val} : veq a b = false ↔ ¬ a = b := by rw [← Bool.not_eq_true, veq_iff]


theorem c_laws_szStringS (xs : List ByteArray) (left : Int) (h0 : 0 ≤ left) (h1 : left ≤ 4611686018427387904) : PC Try.prog 27 [.d (.strs xs), iv .i64 left] (fun r => ∃ n, r = iv .i64 n ∧ n ≤ left ∧ (0 ≤ n → n = left - ssz xs)) := by
  refine PC.intro hT Try.func27 rfl (by decide) ?_
  intro F hF
  simp only [startAS, Try.f27, go_sem]
  refine AW.know fun hfit => ?_
  have hlen : xs.length ≤ maxLen := hfit.1
  unfold maxLen at hlen
  clear hfit
  have hw : IntKind.i64.wrap (left - (xs.length : Int)) = left - xs.length := wrapId (by omega) (by omega)
  refine AW.seq ?_
  refine AW.r hT ?_
  refine AW.seq ?_
  refine AW.r hT ?_
  rw [hw]
  refine AW.seq ?_
  refine AW.seq ?_
  refine AW.r hT ?_
  refine AW.c (fun h => ?_) (fun h => ?_)
  · skip
    refine AW.seq ?_
    refine AW.r hT ?_
    refine AW.ret ?_
    simp only [go_sem, simprocAttr]
    exact ⟨_, rfl, by omega, by omega⟩
  · skip
    refine AW.skip ?_
    refine AW.seq ?_
    refine AW.seq ?_
    refine AW.r hT ?_
    refine AW.block ?_
    refine AW.loop (ι := Nat) (fun i => i ≤ xs.length ∧ 0 ≤ left - xs.length - ssum (xs.take i)) (fun i => ⟨[.d (.strs xs), iv .i64 (left - xs.length - ssum (xs.take i)), .dead, .dead, .dead, iv .i64 i] ++ List.replicate 22 .dead, []⟩) (fun i => xs.length - i) 0 ⟨Nat.zero_le _, by simp [ssum]; omega⟩ (fun _ => by rw [hF]; first | exact Nat.zero_le _ | simp) ?_ ?_
    · simp only [go_sem, simprocAttr]
      all_goals (simp [ssum])
    · intro i hi
      have hi1 := hi.1
      have hi2 := hi.2
      refine AW.seq ?_
      refine AW.seq ?_
      refine AW.r hT ?_
      refine AW.c (fun h => ?_) (fun h => ?_)
      · skip
        have hlt : i < xs.length := by omega
        have htk : ssum (xs.take (i + 1)) = ssum (xs.take i) + (xs.getD i ⟨#[]⟩).size := by
          rw [take_snocD xs i ⟨#[]⟩ hlt, ssum_append]; simp [ssum]
        have hn := ssum_nonneg (xs.take i)
        refine AW.skip ?_
        refine AW.seq ?_
        refine AW.block ?_
        refine AW.seq ?_
        refine AW.r hT ?_
        refine AW.know fun hfit => ?_
        simp only [go_sem, fitsL, fits, fitsO, Nat.reduceAdd] at hfit
        have hs := hfit
        unfold maxLen at hs
        have hw2 : IntKind.i64.wrap (left - (xs.length : Int) - ssum (xs.take i) - ((xs.getD i ⟨#[]⟩).size : Int)) = left - xs.length - ssum (xs.take i) - (xs.getD i ⟨#[]⟩).size := wrapId (by omega) (by omega)
        rw [hw2]
        refine AW.seq ?_
        refine AW.r hT ?_
        refine AW.c (fun h => ?_) (fun h => ?_)
        · skip
          refine AW.seq ?_
          refine AW.r hT ?_
          refine AW.ret ?_
          simp only [go_sem, simprocAttr]
          exact ⟨_, rfl, by omega, by omega⟩
        · skip
          refine AW.skip ?_
          refine AW.r hT ?_
          refine ⟨i + 1, ⟨by omega, by rw [htk]; omega⟩, (by show _ - (i + 1) < _ - i; omega), ?_⟩
          simp only [go_sem, simprocAttr]
          rw [htk, wrapId (by omega) (by omega)]
          exact ⟨by omega, by omega⟩
      · skip
        refine AW.exit ?_
        simp only [go_sem, simprocAttr]
        refine AW.seq ?_
        refine AW.r hT ?_
        refine AW.ret ?_
        simp only [go_sem, simprocAttr]
        have hi' : i = xs.length := by omega
        refine ⟨_, rfl, ?_, fun _ => ?_⟩
        · have := ssum_nonneg (xs.take i); omega
        · rw [hi', List.take_length]; unfold ssz; omega
mutual
theorem c_laws_szVal (v : Val) (left : Int) (h0 : 0 ≤ left) (h1 : left ≤ 4611686018427387904) : PC Try.prog 11 [.agg (v.cells.map .d), iv .i64 left] (fun r => ∃ n, r = iv .i64 n ∧ n ≤ left ∧ (0 ≤ n → n = left - vsz v)) := by
  refine PC.intro hT Try.func11 rfl (by decide) ?_
  intro F hF
  simp only [startAS, Try.f11, go_sem]
  refine AW.know fun hfit => ?_
  simp only [go_sem, fitsL, fits, fitsO, Nat.reduceAdd] at hfit
  have hlen : v.word.size ≤ maxLen := by simp only [hfit]
  unfold maxLen at hlen
  clear hfit
  have hw : IntKind.i64.wrap (left - (v.word.size : Int)) = left - v.word.size := wrapId (by omega) (by omega)
  refine AW.seq ?_
  refine AW.r hT ?_
  refine AW.seq ?_
  refine AW.r hT ?_
  rw [hw]
  refine AW.seq ?_
  refine AW.seq ?_
  refine AW.r hT ?_
  refine AW.c (fun h => ?_) (fun h => ?_)
  · skip
    refine AW.seq ?_
    refine AW.r hT ?_
    refine AW.ret ?_
    simp only [go_sem, simprocAttr]
    exact ⟨_, rfl, by omega, by omega⟩
  · skip
    refine AW.skip ?_
    refine AW.seq ?_
    refine AW.region ?_
    refine AL.u hT ?_
    refine AL.c (c_laws_szStringS v.keys (left - v.word.size) (by omega) (by omega)) ?_
    rintro r ⟨n1, rfl, hn1, hn2⟩
    refine AL.e hT ?_
    refine AW.seq ?_
    refine AW.seq ?_
    refine AW.r hT ?_
    refine AW.c (fun h => ?_) (fun h => ?_)
    · skip
      refine AW.seq ?_
      refine AW.r hT ?_
      refine AW.ret ?_
      simp only [go_sem, simprocAttr]
      exact ⟨_, rfl, by omega, by omega⟩
    · skip
      refine AW.skip ?_
      refine AW.seq ?_
      refine AW.region ?_
      refine AL.u hT ?_
      refine AL.c (c_laws_szValS v.kids n1 (by omega) (by omega)) ?_
      rintro r ⟨n2, rfl, hn3, hn4⟩
      refine AL.e hT ?_
      refine AW.seq ?_
      refine AW.seq ?_
      refine AW.r hT ?_
      refine AW.c (fun h => ?_) (fun h => ?_)
      · skip
        refine AW.seq ?_
        refine AW.r hT ?_
        refine AW.ret ?_
        simp only [go_sem, simprocAttr]
        exact ⟨_, rfl, by omega, by omega⟩
      · skip
        refine AW.skip ?_
        refine AW.seq ?_
        refine AW.r hT ?_
        refine AW.ret ?_
        simp only [go_sem, simprocAttr]
        refine ⟨_, rfl, by omega, fun _ => ?_⟩
        have := hn2 (by omega); have := hn4 (by omega)
        rw [vsz_eq]; omega
termination_by SizeOf.sizeOf v
decreasing_by exact Val.kids_lt v
theorem c_laws_szValS (xs : List Val) (left : Int) (h0 : 0 ≤ left) (h1 : left ≤ 4611686018427387904) : PC Try.prog 28 [.d (.vals xs), iv .i64 left] (fun r => ∃ n, r = iv .i64 n ∧ n ≤ left ∧ (0 ≤ n → n = left - (xs.length + vsum xs))) := by
  refine PC.intro hT Try.func28 rfl (by decide) ?_
  intro F hF
  simp only [startAS, Try.f28, go_sem]
  refine AW.know fun hfit => ?_
  have hlen : xs.length ≤ maxLen := hfit.1
  unfold maxLen at hlen
  clear hfit
  have hw : IntKind.i64.wrap (left - (xs.length : Int)) = left - xs.length := wrapId (by omega) (by omega)
  refine AW.seq ?_
  refine AW.r hT ?_
  refine AW.seq ?_
  refine AW.r hT ?_
  rw [hw]
  refine AW.seq ?_
  refine AW.seq ?_
  refine AW.r hT ?_
  refine AW.c (fun h => ?_) (fun h => ?_)
  · skip
    refine AW.seq ?_
    refine AW.r hT ?_
    refine AW.ret ?_
    simp only [go_sem, simprocAttr]
    exact ⟨_, rfl, by omega, by omega⟩
  · skip
    refine AW.skip ?_
    refine AW.seq ?_
    refine AW.seq ?_
    refine AW.r hT ?_
    refine AW.block ?_
    refine AW.loop (ι := Nat) (fun i => i ≤ xs.length ∧ 0 ≤ left - xs.length - vsum (xs.take i)) (fun i => ⟨[.d (.vals xs), iv .i64 (left - xs.length - vsum (xs.take i)), .dead, .dead, .dead, iv .i64 i] ++ List.replicate 21 .dead, []⟩) (fun i => xs.length - i) 0 ⟨Nat.zero_le _, by simp [vsum]; omega⟩ (fun _ => by rw [hF]; first | exact Nat.zero_le _ | simp) ?_ ?_
    · simp only [go_sem, simprocAttr]
      all_goals (simp [vsum])
    · intro i hi
      have hi1 := hi.1
      have hi2 := hi.2
      refine AW.seq ?_
      refine AW.seq ?_
      refine AW.r hT ?_
      refine AW.c (fun h => ?_) (fun h => ?_)
      · skip
        have hlt : i < xs.length := by omega
        have htk : vsum (xs.take (i + 1)) = vsum (xs.take i) + vsz (xs.getD i default) := by
          rw [take_snocD xs i default hlt, vsum_append]; simp [vsum]
        have hn := vsum_nonneg (xs.take i)
        refine AW.skip ?_
        refine AW.seq ?_
        refine AW.block ?_
        refine AW.seq ?_
        refine AW.region ?_
        refine AL.u hT ?_
        refine AL.c (c_laws_szVal (xs.getD i default) (left - xs.length - vsum (xs.take i)) (by omega) (by omega)) ?_
        rintro r ⟨n1, rfl, hn1, hn2⟩
        refine AL.e hT ?_
        refine AW.seq ?_
        refine AW.r hT ?_
        refine AW.c (fun h => ?_) (fun h => ?_)
        · skip
          refine AW.seq ?_
          refine AW.r hT ?_
          refine AW.ret ?_
          simp only [go_sem, simprocAttr]
          exact ⟨_, rfl, by omega, by omega⟩
        · skip
          have hn3 := hn2 (by omega)
          refine AW.skip ?_
          refine AW.r hT ?_
          refine ⟨i + 1, ⟨by omega, by rw [htk]; omega⟩, (by show _ - (i + 1) < _ - i; omega), ?_⟩
          simp only [go_sem, simprocAttr]
          rw [htk, wrapId (by omega) (by omega)]
          exact ⟨by omega, by omega⟩
      · skip
        refine AW.exit ?_
        simp only [go_sem, simprocAttr]
        refine AW.seq ?_
        refine AW.r hT ?_
        refine AW.ret ?_
        simp only [go_sem, simprocAttr]
        have hi' : i = xs.length := by omega
        refine ⟨_, rfl, ?_, fun _ => ?_⟩
        · have := vsum_nonneg (xs.take i); omega
        · rw [hi', List.take_length]; omega
termination_by SizeOf.sizeOf xs
decreasing_by exact getD_lt xs _ i hlt
end
theorem c_laws_toStringS (xs : List ByteArray) (hn : xs.length ≤ 1073741824) : PC Try.prog 29 [.d (.strs xs)] (fun r => r = .d (.strs xs)) := by
  refine PC.intro hT Try.func29 rfl (by decide) ?_
  intro F hF
  simp only [startAS, Try.f29, go_sem]
  refine AW.seq ?_
  refine AW.r hT ?_
  refine AW.seq ?_
  refine AW.r hT ?_
  refine AW.seq ?_
  refine AW.seq ?_
  refine AW.r hT ?_
  refine AW.block ?_
  refine AW.loop (ι := Nat) (fun i => i ≤ xs.length) (fun i => ⟨[.d (.strs xs), .dead, .dead, .row 0 0, iv .i64 i] ++ List.replicate 17 .dead, [.row 9 (.strs (mix ⟨#[]⟩ xs i)) 0]⟩) (fun i => xs.length - i) 0 (Nat.zero_le _) (fun _ => by rw [hF]; first | exact Nat.zero_le _ | simp) ?_ ?_
  · simp only [go_sem, simprocAttr]
    all_goals (simp [mix_zero])
  · intro i hi
    refine AW.seq ?_
    refine AW.seq ?_
    refine AW.r hT ?_
    refine AW.c (fun h => ?_) (fun h => ?_)
    · skip
      have hm := mix_len ⟨#[]⟩ xs i hi
      refine AW.skip ?_
      refine AW.seq ?_
      refine AW.block ?_
      refine AW.r hT ?_
      refine AW.r hT ?_
      refine ⟨i + 1, by omega, (by show _ - (i + 1) < _ - i; omega), ?_⟩
      simp only [go_sem, simprocAttr]
      rw [mix_set ⟨#[]⟩ xs i (by omega), wrapId (by omega) (by omega)]
      exact ⟨by omega, rfl⟩
    · skip
      refine AW.exit ?_
      simp only [go_sem, simprocAttr]
      refine AW.seq ?_
      refine AW.r hT ?_
      refine AW.ret ?_
      simp only [go_sem, simprocAttr]
      obtain rfl : i = xs.length := by omega
      rw [mix_all]
mutual
theorem c_laws_toVal (v : Val) (hn : vsz v ≤ 1073741824) : PC Try.prog 13 [.agg (v.cells.map .d)] (fun r => r = .agg (v.cells.map .d)) := by
  have hz := vsz_eq v
  have hk := ssum_nonneg v.keys
  have hk2 := vsum_nonneg v.kids
  have hsz : ssz v.keys = v.keys.length + ssum v.keys := rfl
  refine PC.intro hT Try.func13 rfl (by decide) ?_
  intro F hF
  simp only [startAS, Try.f13, go_sem]
  refine AW.seq ?_
  refine AW.r hT ?_
  refine AW.seq ?_
  refine AW.r hT ?_
  refine AW.seq ?_
  refine AW.r hT ?_
  refine AW.seq ?_
  refine AW.r hT ?_
  refine AW.seq ?_
  refine AW.region ?_
  refine AL.u hT ?_
  refine AL.c (c_laws_toStringS v.keys (by omega)) ?_
  rintro r rfl
  refine AL.e hT ?_
  refine AW.seq ?_
  refine AW.region ?_
  refine AL.u hT ?_
  refine AL.c (c_laws_toValS v.kids (by omega)) ?_
  rintro r rfl
  refine AL.e hT ?_
  refine AW.seq ?_
  refine AW.r hT ?_
  refine AW.ret ?_
  simp only [go_sem, simprocAttr]
termination_by SizeOf.sizeOf v
decreasing_by exact Val.kids_lt v
theorem c_laws_toValS (xs : List Val) (hn : xs.length + vsum xs ≤ 1073741824) : PC Try.prog 30 [.d (.vals xs)] (fun r => r = .d (.vals xs)) := by
  have hk2 := vsum_nonneg xs
  refine PC.intro hT Try.func30 rfl (by decide) ?_
  intro F hF
  simp only [startAS, Try.f30, go_sem]
  refine AW.seq ?_
  refine AW.r hT ?_
  refine AW.seq ?_
  refine AW.r hT ?_
  refine AW.seq ?_
  refine AW.seq ?_
  refine AW.r hT ?_
  refine AW.block ?_
  refine AW.loop (ι := Nat) (fun i => i ≤ xs.length) (fun i => ⟨[.d (.vals xs), .dead, .dead, .row 0 0, iv .i64 i] ++ List.replicate 18 .dead, [.row 30 (.vals (mix default xs i)) 0]⟩) (fun i => xs.length - i) 0 (Nat.zero_le _) (fun _ => by rw [hF]; first | exact Nat.zero_le _ | simp) ?_ ?_
  · simp only [go_sem, simprocAttr]
    all_goals (simp [mix_zero])
  · intro i hi
    refine AW.seq ?_
    refine AW.seq ?_
    refine AW.r hT ?_
    refine AW.c (fun h => ?_) (fun h => ?_)
    · skip
      have hlt : i < xs.length := by omega
      have hg := vsum_get xs i hlt
      have hm := mix_len default xs i hi
      refine AW.skip ?_
      refine AW.seq ?_
      refine AW.block ?_
      refine AW.region ?_
      refine AL.u hT ?_
      refine AL.c (c_laws_toVal (xs.getD i default) (by omega)) ?_
      rintro r rfl
      refine AL.e hT ?_
      refine AW.r hT ?_
      refine ⟨i + 1, by omega, (by show _ - (i + 1) < _ - i; omega), ?_⟩
      simp only [go_sem, simprocAttr]
      rw [mix_set default xs i (by omega), wrapId (by omega) (by omega)]
      exact ⟨by omega, rfl⟩
    · skip
      refine AW.exit ?_
      simp only [go_sem, simprocAttr]
      refine AW.seq ?_
      refine AW.r hT ?_
      refine AW.ret ?_
      simp only [go_sem, simprocAttr]
      obtain rfl : i = xs.length := by omega
      rw [mix_all]
termination_by SizeOf.sizeOf xs
decreasing_by exact getD_lt xs _ i hlt
end
theorem c_laws_eqStringS (xs ys : List ByteArray) : PC Try.prog 32 [.d (.strs xs), .d (.strs ys)] (fun r => r = bv (decide (xs = ys))) := by
  refine PC.intro hT Try.func32 rfl (by decide) ?_
  intro F hF
  simp only [startAS, Try.f32, go_sem]
  refine AW.know fun hfit => ?_
  have hlen : xs.length ≤ maxLen := hfit.1
  unfold maxLen at hlen
  clear hfit
  refine AW.seq ?_
  refine AW.r hT ?_
  refine AW.seq ?_
  refine AW.seq ?_
  refine AW.r hT ?_
  refine AW.c (fun h => ?_) (fun h => ?_)
  · skip
    refine AW.seq ?_
    refine AW.r hT ?_
    refine AW.ret ?_
    simp only [go_sem, simprocAttr]
    rw [decide_eq_false (fun e => h (by rw [e]))]
  · skip
    have hl : xs.length = ys.length := by omega
    refine AW.skip ?_
    refine AW.seq ?_
    refine AW.seq ?_
    refine AW.r hT ?_
    refine AW.block ?_
    refine AW.loop (ι := Nat) (fun i => i ≤ xs.length ∧ xs.take i = ys.take i) (fun i => ⟨[.d (.strs xs), .d (.strs ys), .dead, .dead, .dead, iv .i64 i] ++ List.replicate 20 .dead, []⟩) (fun i => xs.length - i) 0 ⟨Nat.zero_le _, by simp⟩ (fun _ => by rw [hF]; first | exact Nat.zero_le _ | simp) ?_ ?_
    · simp only [go_sem, simprocAttr]
      all_goals (rfl)
    · intro i hi
      have hi1 := hi.1
      refine AW.seq ?_
      refine AW.seq ?_
      refine AW.r hT ?_
      refine AW.c (fun h => ?_) (fun h => ?_)
      · skip
        have hlt : i < xs.length := by omega
        refine AW.skip ?_
        refine AW.seq ?_
        refine AW.block ?_
        refine AW.seq ?_
        refine AW.draw hT 8 (by decide) ?_
        simp only [go_sem, simprocAttr]
        refine DL.e ?_
        refine AL.e hT ?_
        refine AW.c (fun h => ?_) (fun h => ?_)
        · skip
          refine AW.seq ?_
          refine AW.r hT ?_
          refine AW.ret ?_
          simp only [go_sem, simprocAttr]
          rw [decide_eq_false (ne_of_getD h)]
        · skip
          refine AW.skip ?_
          refine AW.r hT ?_
          refine ⟨i + 1, ⟨by omega, (take_eq_succ _ hl hlt).2 ⟨hi.2, h⟩⟩, (by show _ - (i + 1) < _ - i; omega), ?_⟩
          simp only [go_sem, simprocAttr]
          rw [wrapId (by omega) (by omega)]
          omega
      · skip
        have e := eq_of_take (by omega) hl hi.2
        refine AW.exit ?_
        simp only [go_sem, simprocAttr]
        refine AW.seq ?_
        refine AW.r hT ?_
        refine AW.ret ?_
        simp only [go_sem, simprocAttr]
        rw [decide_eq_true e]
mutual
theorem c_laws_eqVal (a b : Val) : PC Try.prog 15 [.agg (a.cells.map .d), .agg (b.cells.map .d)] (fun r => r = bv (veq a b)) := by
  refine PC.intro hT Try.func15 rfl (by decide) ?_
  intro F hF
  simp only [startAS, Try.f15, go_sem]
  refine AW.seq ?_
  refine AW.r hT ?_
  have g0 := a.kind
  refine AW.seq ?_
  refine AW.seq ?_
  refine AW.r hT ?_
  refine AW.c (fun h => ?_) (fun h => ?_)
  · skip
    refine AW.seq ?_
    refine AW.r hT ?_
    refine AW.ret ?_
    simp only [go_sem, simprocAttr]
    rw [veq_ne (fun e => h (by rw [e]))]
  · skip
    have h1 := h
    refine AW.skip ?_
    refine AW.seq ?_
    refine AW.seq ?_
    refine AW.r hT ?_
    refine AW.c (fun h => ?_) (fun h => ?_)
    · skip
      refine AW.seq ?_
      refine AW.r hT ?_
      refine AW.ret ?_
      simp only [go_sem, simprocAttr]
      rw [veq_ne (fun e => h (by rw [e]))]
    · skip
      have h2 := h
      refine AW.skip ?_
      refine AW.seq ?_
      refine AW.seq ?_
      refine AW.region ?_
      refine AL.u hT ?_
      refine AL.c (c_laws_eqStringS a.keys b.keys) ?_
      rintro r rfl
      refine AL.e hT ?_
      refine AW.c (fun h => ?_) (fun h => ?_)
      · skip
        refine AW.seq ?_
        refine AW.r hT ?_
        refine AW.ret ?_
        simp only [go_sem, simprocAttr]
        rw [veq_ne (fun e => h (by rw [e]))]
      · skip
        have h3 := h
        refine AW.skip ?_
        refine AW.seq ?_
        refine AW.seq ?_
        refine AW.region ?_
        refine AL.u hT ?_
        refine AL.c (c_laws_eqValS a.kids b.kids) ?_
        rintro r rfl
        refine AL.e hT ?_
        refine AW.c (fun h => ?_) (fun h => ?_)
        · skip
          refine AW.seq ?_
          refine AW.r hT ?_
          refine AW.ret ?_
          simp only [go_sem, simprocAttr]
          rw [veq_ne (fun e => (by simp [veqs_same (congrArg Val.kids e)] at h))]
        · skip
          have h4 := h
          refine AW.skip ?_
          refine AW.seq ?_
          refine AW.r hT ?_
          refine AW.ret ?_
          simp only [go_sem, simprocAttr]
          rw [veq_same]
          obtain ⟨k, w, ks, cs⟩ := a
          obtain ⟨k2, w2, ks2, cs2⟩ := b
          have h5 := (veqs_iff _ _).1 h4
          simp only at h1 h2 h3 h5
          subst h1; subst h2; subst h3; subst h5; rfl
termination_by SizeOf.sizeOf a
decreasing_by exact Val.kids_lt a
theorem c_laws_eqValS (xs ys : List Val) : PC Try.prog 33 [.d (.vals xs), .d (.vals ys)] (fun r => r = bv (veqs xs ys)) := by
  refine PC.intro hT Try.func33 rfl (by decide) ?_
  intro F hF
  simp only [startAS, Try.f33, go_sem]
  refine AW.know fun hfit => ?_
  have hlen : xs.length ≤ maxLen := hfit.1
  unfold maxLen at hlen
  clear hfit
  refine AW.seq ?_
  refine AW.r hT ?_
  refine AW.seq ?_
  refine AW.seq ?_
  refine AW.r hT ?_
  refine AW.c (fun h => ?_) (fun h => ?_)
  · skip
    refine AW.seq ?_
    refine AW.r hT ?_
    refine AW.ret ?_
    simp only [go_sem, simprocAttr]
    rw [veqs_ne (fun e => h (by rw [e]))]
  · skip
    have hl : xs.length = ys.length := by omega
    refine AW.skip ?_
    refine AW.seq ?_
    refine AW.seq ?_
    refine AW.r hT ?_
    refine AW.block ?_
    refine AW.loop (ι := Nat) (fun i => i ≤ xs.length ∧ xs.take i = ys.take i) (fun i => ⟨[.d (.vals xs), .d (.vals ys), .dead, .dead, .dead, iv .i64 i] ++ List.replicate 21 .dead, []⟩) (fun i => xs.length - i) 0 ⟨Nat.zero_le _, by simp⟩ (fun _ => by rw [hF]; first | exact Nat.zero_le _ | simp) ?_ ?_
    · simp only [go_sem, simprocAttr]
      all_goals (rfl)
    · intro i hi
      have hi1 := hi.1
      refine AW.seq ?_
      refine AW.seq ?_
      refine AW.r hT ?_
      refine AW.c (fun h => ?_) (fun h => ?_)
      · skip
        have hlt : i < xs.length := by omega
        refine AW.skip ?_
        refine AW.seq ?_
        refine AW.block ?_
        refine AW.seq ?_
        refine AW.draw hT 8 (by decide) ?_
        simp only [go_sem, simprocAttr]
        refine DL.e ?_
        refine AL.c (c_laws_eqVal (xs.getD i default) (ys.getD i default)) ?_
        rintro r rfl
        refine AL.e hT ?_
        refine AW.c (fun h => ?_) (fun h => ?_)
        · skip
          refine AW.seq ?_
          refine AW.r hT ?_
          refine AW.ret ?_
          simp only [go_sem, simprocAttr]
          rw [veqs_ne (ne_of_getD (veq_false.1 h))]
        · skip
          refine AW.skip ?_
          refine AW.r hT ?_
          refine ⟨i + 1, ⟨by omega, (take_eq_succ _ hl hlt).2 ⟨hi.2, (veq_iff _ _).1 h⟩⟩, (by show _ - (i + 1) < _ - i; omega), ?_⟩
          simp only [go_sem, simprocAttr]
          rw [wrapId (by omega) (by omega)]
          omega
      · skip
        have e := eq_of_take (by omega) hl hi.2
        refine AW.exit ?_
        simp only [go_sem, simprocAttr]
        refine AW.seq ?_
        refine AW.r hT ?_
        refine AW.ret ?_
        simp only [go_sem, simprocAttr]
        rw [veqs_same e]
termination_by SizeOf.sizeOf xs
decreasing_by exact getD_lt xs _ i hlt
end
theorem c_slices_Equal (xs ys : List ByteArray) : PC Try.prog 31 [.d (.strs xs), .d (.strs ys)] (fun r => r = bv (decide (xs = ys))) := by
  refine PC.intro hT Try.func31 rfl (by decide) ?_
  intro F hF
  simp only [startAS, Try.f31, go_sem]
  refine AW.know fun hfit => ?_
  have hlen : xs.length ≤ maxLen := hfit.1
  unfold maxLen at hlen
  clear hfit
  refine AW.seq ?_
  refine AW.r hT ?_
  refine AW.seq ?_
  refine AW.seq ?_
  refine AW.r hT ?_
  refine AW.c (fun h => ?_) (fun h => ?_)
  · skip
    refine AW.seq ?_
    refine AW.r hT ?_
    refine AW.ret ?_
    simp only [go_sem, simprocAttr]
    rw [decide_eq_false (fun e => h (by rw [e]))]
  · skip
    have hl : xs.length = ys.length := by omega
    refine AW.skip ?_
    refine AW.seq ?_
    refine AW.seq ?_
    refine AW.r hT ?_
    refine AW.block ?_
    refine AW.loop (ι := Nat) (fun i => i ≤ xs.length ∧ xs.take i = ys.take i) (fun i => ⟨[.d (.strs xs), .d (.strs ys)] ++ List.replicate 10 .dead ++ [iv .i64 xs.length, iv .i64 i] ++ List.replicate 12 .dead, []⟩) (fun i => xs.length - i) 0 ⟨Nat.zero_le _, by simp⟩ (fun _ => by rw [hF]; first | exact Nat.zero_le _ | simp) ?_ ?_
    · simp only [go_sem, simprocAttr]
      all_goals (rfl)
    · intro i hi
      have hi1 := hi.1
      refine AW.seq ?_
      refine AW.r hT ?_
      refine AW.seq ?_
      refine AW.c (fun h => ?_) (fun h => ?_)
      · skip
        have hlt : i < xs.length := by omega
        refine AW.skip ?_
        refine AW.seq ?_
        refine AW.block ?_
        refine AW.seq ?_
        refine AW.r hT ?_
        refine AW.seq ?_
        refine AW.draw hT 8 (by decide) ?_
        simp only [go_sem, simprocAttr]
        refine DL.e ?_
        refine AL.e hT ?_
        refine AW.c (fun h => ?_) (fun h => ?_)
        · skip
          refine AW.seq ?_
          refine AW.r hT ?_
          refine AW.ret ?_
          simp only [go_sem, simprocAttr]
          rw [decide_eq_false (ne_of_getD h)]
        · skip
          refine AW.skip ?_
          refine AW.r hT ?_
          refine ⟨i + 1, ⟨by omega, (take_eq_succ _ hl hlt).2 ⟨hi.2, h⟩⟩, (by show _ - (i + 1) < _ - i; omega), ?_⟩
          simp only [go_sem, simprocAttr]
          rw [wrapId (by omega) (by omega)]
          omega
      · skip
        have e := eq_of_take (by omega) hl hi.2
        refine AW.exit ?_
        simp only [go_sem, simprocAttr]
        refine AW.seq ?_
        refine AW.r hT ?_
        refine AW.ret ?_
        simp only [go_sem, simprocAttr]
        rw [decide_eq_true e]
theorem c_impl_ValSame (a b : Val) : PC Try.prog 14 [.agg (a.cells.map .d), .agg (b.cells.map .d)] (fun r => r = bv (veq a b)) := by
  refine PC.intro hT Try.func14 rfl (by decide) ?_
  intro F hF
  simp only [startAS, Try.f14, go_sem]
  refine AW.know fun hfit => ?_
  simp only [go_sem, fitsL, fits, fitsO, Nat.reduceAdd] at hfit
  have hlen : a.kids.length ≤ maxLen := by simp only [hfit]
  unfold maxLen at hlen
  clear hfit
  refine AW.seq ?_
  refine AW.r hT ?_
  refine AW.seq ?_
  refine AW.seq ?_
  refine AW.region ?_
  refine AL.u hT ?_
  refine AL.cF hT (fun hG => c_slices_Equal a.keys b.keys) ?_
  simp only [go_sem, simprocAttr]
  refine AL.e hT ?_
  refine AW.c (fun h => ?_) (fun h => ?_)
  · skip
    have hne : ¬ a = b := fun e => by subst e; simp at h
    refine AW.seq ?_
    refine AW.r hT ?_
    refine AW.ret ?_
    simp only [go_sem, simprocAttr]
    rw [veq_ne hne]
  · skip
    obtain ⟨⟨⟨h1, h2⟩, h3⟩, h4⟩ := h
    have hl : a.kids.length = b.kids.length := by omega
    refine AW.skip ?_
    refine AW.seq ?_
    refine AW.seq ?_
    refine AW.r hT ?_
    refine AW.block ?_
    refine AW.loop (ι := Nat) (fun i => i ≤ a.kids.length ∧ a.kids.take i = b.kids.take i) (fun i => ⟨List.replicate 2 .dead ++ [.ptr 0 0, .ptr 1 0] ++ List.replicate 33 .dead ++ [iv .i64 a.kids.length, iv .i64 i] ++ List.replicate 15 .dead, [.box 30 (a.cells.map .d), .box 30 (b.cells.map .d)]⟩) (fun i => a.kids.length - i) 0 ⟨Nat.zero_le _, by simp⟩ (fun _ => by rw [hF]; first | exact Nat.zero_le _ | simp) ?_ ?_
    · simp only [go_sem, simprocAttr]
      all_goals (rfl)
    · intro i hi
      have hi1 := hi.1
      refine AW.seq ?_
      refine AW.r hT ?_
      refine AW.seq ?_
      refine AW.c (fun h => ?_) (fun h => ?_)
      · skip
        have hlt : i < a.kids.length := by omega
        refine AW.skip ?_
        refine AW.seq ?_
        refine AW.block ?_
        refine AW.seq ?_
        refine AW.r hT ?_
        refine AW.seq ?_
        refine AW.draw hT 10 (by decide) ?_
        simp only [go_sem, simprocAttr]
        refine DL.e ?_
        refine AL.c (c_impl_ValSame (a.kids.getD i default) (b.kids.getD i default)) ?_
        rintro r rfl
        refine AL.e hT ?_
        refine AW.c (fun h => ?_) (fun h => ?_)
        · skip
          refine AW.seq ?_
          refine AW.r hT ?_
          refine AW.ret ?_
          simp only [go_sem, simprocAttr]
          rw [veq_ne (fun e => ne_of_getD (veq_false.1 h) (by rw [e]))]
        · skip
          refine AW.skip ?_
          refine AW.r hT ?_
          refine ⟨i + 1, ⟨by omega, (take_eq_succ _ hl hlt).2 ⟨hi.2, (veq_iff _ _).1 h⟩⟩, (by show _ - (i + 1) < _ - i; omega), ?_⟩
          simp only [go_sem, simprocAttr]
          rw [wrapId (by omega) (by omega)]
          omega
      · skip
        have h5 := eq_of_take (by omega) hl hi.2
        refine AW.exit ?_
        simp only [go_sem, simprocAttr]
        refine AW.seq ?_
        refine AW.r hT ?_
        refine AW.ret ?_
        simp only [go_sem, simprocAttr]
        rw [veq_same]
        obtain ⟨k, w, ks, cs⟩ := a
        obtain ⟨k2, w2, ks2, cs2⟩ := b
        simp only at h1 h2 h3 h5
        subst h1; subst h2; subst h3; subst h5; rfl
termination_by SizeOf.sizeOf a
decreasing_by exact Val.kid_lt a i hlt
theorem c_spec_ValSame (a b : Val) : PC Try.prog 12 [.agg (a.cells.map .d), .agg (b.cells.map .d)] (fun r => r = bv (veq a b)) := by
  refine PC.intro hT Try.func12 rfl (by decide) ?_
  intro F hF
  simp only [startAS, Try.f12, go_sem]
  refine AW.know fun hfit => ?_
  simp only [go_sem, fitsL, fits, fitsO, Nat.reduceAdd] at hfit
  have hlen : a.kids.length ≤ maxLen := by simp only [hfit]
  have hlen2 : a.keys.length ≤ maxLen := by simp only [hfit]
  unfold maxLen at hlen hlen2
  clear hfit
  refine AW.seq ?_
  refine AW.r hT ?_
  refine AW.seq ?_
  refine AW.seq ?_
  refine AW.r hT ?_
  refine AW.c (fun h => ?_) (fun h => ?_)
  · skip
    have hne : ¬ a = b := fun e => by subst e; simp at h
    refine AW.seq ?_
    refine AW.r hT ?_
    refine AW.ret ?_
    simp only [go_sem, simprocAttr]
    rw [veq_ne hne]
  · skip
    obtain ⟨⟨⟨h1, h2⟩, h3⟩, h4⟩ := h
    have hl : a.kids.length = b.kids.length := by omega
    have hl2 : a.keys.length = b.keys.length := by omega
    refine AW.skip ?_
    refine AW.seq ?_
    refine AW.seq ?_
    refine AW.r hT ?_
    refine AW.block ?_
    refine AW.loop (ι := Nat) (fun i => i ≤ a.keys.length ∧ a.keys.take i = b.keys.take i) (fun i => ⟨List.replicate 2 .dead ++ [.ptr 0 0, .ptr 1 0] ++ List.replicate 1 .dead ++ [iv .i64 i] ++ List.replicate 68 .dead, [.box 30 (a.cells.map .d), .box 30 (b.cells.map .d)]⟩) (fun i => a.keys.length - i) 0 ⟨Nat.zero_le _, by simp⟩ (fun _ => by rw [hF]; first | exact Nat.zero_le _ | simp) ?_ ?_
    · simp only [go_sem, simprocAttr]
      all_goals (rfl)
    · intro i hi
      have hi1 := hi.1
      refine AW.seq ?_
      refine AW.seq ?_
      refine AW.r hT ?_
      refine AW.c (fun h => ?_) (fun h => ?_)
      · skip
        have hlt : i < a.keys.length := by omega
        refine AW.skip ?_
        refine AW.seq ?_
        refine AW.block ?_
        refine AW.seq ?_
        refine AW.draw hT 10 (by decide) ?_
        simp only [go_sem, simprocAttr]
        refine DL.e ?_
        refine AL.e hT ?_
        refine AW.c (fun h => ?_) (fun h => ?_)
        · skip
          refine AW.seq ?_
          refine AW.r hT ?_
          refine AW.ret ?_
          simp only [go_sem, simprocAttr]
          rw [veq_ne (fun e => ne_of_getD h (by rw [e]))]
        · skip
          refine AW.skip ?_
          refine AW.r hT ?_
          refine ⟨i + 1, ⟨by omega, (take_eq_succ _ hl2 hlt).2 ⟨hi.2, h⟩⟩, (by show _ - (i + 1) < _ - i; omega), ?_⟩
          simp only [go_sem, simprocAttr]
          rw [wrapId (by omega) (by omega)]
          omega
      · skip
        have h6 := eq_of_take (by omega) hl2 hi.2
        clear hi
        refine AW.exit ?_
        simp only [go_sem, simprocAttr]
        refine AW.seq ?_
        refine AW.seq ?_
        refine AW.r hT ?_
        refine AW.block ?_
        refine AW.loop (ι := Nat) (fun i => i ≤ a.kids.length ∧ a.kids.take i = b.kids.take i) (fun i => ⟨List.replicate 2 .dead ++ [.ptr 0 0, .ptr 1 0] ++ List.replicate 2 .dead ++ [iv .i64 i] ++ List.replicate 67 .dead, [.box 30 (a.cells.map .d), .box 30 (b.cells.map .d)]⟩) (fun i => a.kids.length - i) 0 ⟨Nat.zero_le _, by simp⟩ (fun _ => by rw [hF]; first | exact Nat.zero_le _ | simp) ?_ ?_
        · simp only [go_sem, simprocAttr]
          all_goals (rfl)
        · intro i hi
          have hi1 := hi.1
          refine AW.seq ?_
          refine AW.seq ?_
          refine AW.r hT ?_
          refine AW.c (fun h => ?_) (fun h => ?_)
          · skip
            have hlt : i < a.kids.length := by omega
            refine AW.skip ?_
            refine AW.seq ?_
            refine AW.block ?_
            refine AW.seq ?_
            refine AW.draw hT 10 (by decide) ?_
            simp only [go_sem, simprocAttr]
            refine DL.e ?_
            refine AL.c (c_spec_ValSame (a.kids.getD i default) (b.kids.getD i default)) ?_
            rintro r rfl
            refine AL.e hT ?_
            refine AW.c (fun h => ?_) (fun h => ?_)
            · skip
              refine AW.seq ?_
              refine AW.r hT ?_
              refine AW.ret ?_
              simp only [go_sem, simprocAttr]
              rw [veq_ne (fun e => ne_of_getD (veq_false.1 h) (by rw [e]))]
            · skip
              refine AW.skip ?_
              refine AW.r hT ?_
              refine ⟨i + 1, ⟨by omega, (take_eq_succ _ hl hlt).2 ⟨hi.2, (veq_iff _ _).1 h⟩⟩, (by show _ - (i + 1) < _ - i; omega), ?_⟩
              simp only [go_sem, simprocAttr]
              rw [wrapId (by omega) (by omega)]
              omega
          · skip
            have h5 := eq_of_take (by omega) hl hi.2
            refine AW.exit ?_
            simp only [go_sem, simprocAttr]
            refine AW.seq ?_
            refine AW.r hT ?_
            refine AW.ret ?_
            simp only [go_sem, simprocAttr]
            rw [veq_same]
            obtain ⟨k, w, ks, cs⟩ := a
            obtain ⟨k2, w2, ks2, cs2⟩ := b
            simp only at h1 h2 h5 h6
            subst h1; subst h2; subst h6; subst h5; rfl
termination_by SizeOf.sizeOf a
decreasing_by exact Val.kid_lt a i hlt
end Go.Proofs.Ytlhfjjkoflpecaa

