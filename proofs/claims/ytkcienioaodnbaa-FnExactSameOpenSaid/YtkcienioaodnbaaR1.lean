import Derived.Test.YtkcienioaodnbaaD1
import Derived.Test.YtkcienioaodnbaaShelf
namespace Go.Proofs.Ytkcienioaodnbaa
open Go.Proofs.YtkcienioaodnbaaAw Go.RowKit
set_option linter.unusedVariables false
set_option linter.unusedSimpArgs false
set_option maxRecDepth 20000
set_option maxHeartbeats 2000000
attribute [local go_sem] runL stepL runQ stepQ isStop AV.closed AV.closedL clo guardB isCall objOp pureOp ops opo opv cellsOf leafB putT constAV fitC loadA cut storeA storeR splice fieldA indexA lenA slOf slOfD binA binI binS binB binG unA pickA convA nilCheckA extractA sliceA sliceD natA toP sliceStr indexStr szB buildSliceA partsA inOrder freezeL freeze1 freezeV freezeVs appendA makeA minA buildA fieldsA verOf dtAt Ob.ver Ob.dt Dt.isSl Dt.len Dt.sz Dt.el Dt.snoc Dt.app Dt.app2 Dt.sub Dt.withEl Dt.zeros mkDoc mkVal mkRow mkRows mkStr mkInt mkByte mkBool mkPiece mkItem asDocs asVals asStrs asInts asRows Doc.cells Val.cells Row.cells Piece.cells Item.cells Doc.eta Val.eta calleeA callArgs calleeO opoL Le LeL LeO LeB LeV AV.under AV.underL Dt.docs.injEq Dt.vals.injEq Dt.rows.injEq Dt.rowss.injEq Dt.strs.injEq Dt.ints.injEq Dt.bytes.injEq Dt.bools.injEq Dt.pieces.injEq Dt.items.injEq eq_self retK retOK resA oneV thenQ blockQ loopQ cutQ retQ retOQ T1 ti1 T2 ti2 T3 ti3 T4 ti4 T5 ti5 T6 ti6 T7 ti7 T8 ti8 T9 ti9 T10 ti10 T11 ti11 T12 ti12 T13 ti13 T14 ti14 T15 ti15 T16 ti16 T17 ti17 T18 ti18 T19 ti19 T21 ti21 T22 ti22 T23 ti23 T24 ti24 T26 ti26 T27 ti27 T28 ti28 T29 ti29 T30 ti30 T31 ti31 T32 ti32 T33 ti33 T34 ti34 T35 ti35 T36 ti36 T37 ti37 T38 ti38 T39 ti39 T40 ti40 T41 ti41 T42 ti42 T44 ti44 T45 ti45 T46 ti46 T47 ti47 T48 ti48 T49 ti49 T50 ti50 T51 ti51 T52 ti52 T53 ti53 T54 ti54 T55 ti55 T56 ti56 T57 ti57 T58 ti58 T59 ti59 T60 ti60 T61 ti61 T62 ti62 T63 ti63 T64 ti64 T65 ti65 T66 ti66 T67 ti67 T68 ti68 T69 ti69 T70 ti70 T71 ti71 T72 ti72 T73 ti73 T74 ti74 T75 ti75 T76 ti76 T77 ti77 T78 ti78 T79 ti79 T80 ti80 T81 ti81 T82 ti82 T83 ti83 T84 ti84 T85 ti85 T86 ti86 T87 ti87 T88 ti88 T89 ti89 T90 ti90 T91 ti91 T92 ti92 T93 ti93 T94 ti94 T95 ti95 T96 ti96 T97 ti97 T98 ti98 T99 ti99 T100 ti100 T101 ti101 T102 ti102 T103 ti103 T104 ti104 T105 ti105 T106 ti106 T107 ti107 T108 ti108 T109 ti109 T110 ti110 T111 ti111 T112 ti112 T113 ti113 T114 ti114 T115 ti115 T116 ti116 T118 ti118 T119 ti119 T121 ti121 T122 ti122 T123 ti123 T124 ti124 T125 ti125 T126 ti126 T127 ti127 T131 ti131 T132 ti132 T133 ti133 T134 ti134 T135 ti135 T136 ti136 T137 ti137 T138 ti138 T139 ti139 T140 ti140 T120 ti120
attribute [local go_sem] runV AV.avoid AV.avoidL toH toH1 frH frH1 idx backs imps bump conv handB pickO all_some all_none false_implies implies_true Bool.not_true Bool.not_false Bool.or_true Bool.true_or Bool.or_false Bool.false_or List.getD_cons_zero List.getD_cons_succ List.getD_nil List.set_cons_zero List.set_cons_succ List.length_cons List.length_nil List.nil_append List.cons_append List.append_nil List.all_cons List.all_nil List.map_cons List.map_nil Bool.and_self Bool.and_true Bool.true_and if_true if_false ite_true ite_false Option.bind_some Option.bind_none Option.map_some Option.map_none Option.getD_some Option.getD_none List.getElem?_cons_zero List.getElem?_cons_succ List.getElem?_nil List.drop_zero List.drop_succ_cons List.drop_nil List.take_succ_cons List.take_zero List.take_nil Bool.false_eq_true Bool.cond_true_left Bool.cond_false_right beq_self_eq_true decide_true decide_false and_true true_and and_self List.toList_toArray reduceCtorEq List.replicate startAS Int.toNat_natCast



/-! ### Layouts -/
theorem Row.eta (r : Row) : (⟨r.indent, r.text⟩ : Row) = r := by cases r; rfl
def rdef : Row := ⟨0, ⟨#[]⟩⟩
def inRow (n : Int) (r : Row) : Row := ⟨r.indent + n, r.text⟩
/-- The rows behind the first, up to i, stand further in. -/
def nstI (n : Int) (l : List Row) (i : Nat) : List Row := (List.range l.length).map fun j => if 1 ≤ j ∧ j < i then inRow n (l.getD j default) else l.getD j default
def lnest (n : Int) (l : List Row) : List Row := nstI n l l.length
def lcat (a b : List Row) : List Row := a.set (a.length - 1) ⟨(a.getD (a.length - 1) default).indent, (a.getD (a.length - 1) default).text ++ (b.getD 0 default).text⟩ ++ b.drop 1
theorem nstI_len (n : Int) (l : List Row) (i : Nat) : (nstI n l i).length = l.length := by simp [nstI]
theorem nstI_get (n : Int) (l : List Row) (i j : Nat) (h : j < l.length) : (nstI n l i).getD j default = if 1 ≤ j ∧ j < i then inRow n (l.getD j default) else l.getD j default := by
  unfold nstI
  rw [List.getD_eq_getElem?_getD, List.getElem?_map, List.getElem?_range h]; rfl
theorem nstI_one (n : Int) (l : List Row) : nstI n l 1 = l := by
  refine List.ext_getElem? fun j => ?_
  unfold nstI
  rw [List.getElem?_map]
  by_cases h : j < l.length
  · rw [List.getElem?_range h]
    simp only [Option.map_some]
    rw [if_neg (by omega), List.getD_eq_getElem?_getD, List.getElem?_eq_getElem h]; rfl
  · rw [List.getElem?_eq_none (by simpa using h), List.getElem?_eq_none (by omega)]; rfl
theorem nstI_set (n : Int) (l : List Row) (i : Nat) (h1 : 1 ≤ i) (h : i < l.length) : (nstI n l i).set i (inRow n (l.getD i default)) = nstI n l (i + 1) := by
  refine List.ext_getElem? fun j => ?_
  by_cases hj : j < l.length
  · by_cases e : i = j
    · subst e
      rw [List.getElem?_set_self (by rw [nstI_len]; exact h)]
      unfold nstI
      rw [List.getElem?_map, List.getElem?_range h]
      simp only [Option.map_some]
      rw [if_pos (by omega)]
    · rw [List.getElem?_set_ne e]
      unfold nstI
      rw [List.getElem?_map, List.getElem?_map, List.getElem?_range hj]
      simp only [Option.map_some, Option.some.injEq]
      by_cases c : 1 ≤ j ∧ j < i
      · rw [if_pos c, if_pos (by omega)]
      · rw [if_neg c, if_neg (by omega)]
  · rw [List.getElem?_eq_none (by rw [List.length_set, nstI_len]; omega), List.getElem?_eq_none (by rw [nstI_len]; omega)]
theorem nstI_all (n : Int) (l : List Row) (i : Nat) (h : l.length ≤ i) : nstI n l i = lnest n l := by
  unfold lnest nstI
  refine List.map_congr_left fun j hj => ?_
  have := List.mem_range.1 hj
  by_cases c : 1 ≤ j ∧ j < i
  · rw [if_pos c, if_pos (by omega)]
  · rw [if_neg c, if_neg (by omega)]
theorem cat_get (a b : List Row) (ha : 0 < a.length) : (a ++ b.drop 1).getD (a.length - 1) default = a.getD (a.length - 1) default := by
  rw [List.getD_eq_getElem?_getD, List.getD_eq_getElem?_getD, List.getElem?_append_left (by omega)]
theorem cat_set (a b : List Row) (ha : 0 < a.length) : (a ++ b.drop 1).set (a.length - 1) ⟨((a ++ b.drop 1).getD (a.length - 1) default).indent, ((a ++ b.drop 1).getD (a.length - 1) default).text ++ (b.getD 0 default).text⟩ = lcat a b := by
  have h : (a ++ b.drop 1).getD (a.length - 1) default = a.getD (a.length - 1) default := by
    rw [List.getD_eq_getElem?_getD, List.getD_eq_getElem?_getD, List.getElem?_append_left (by omega)]
  rw [h, List.set_append, if_pos (by omega)]; rfl
mutual
def lopen : Doc → List Row
  | ⟨op, n, s, kids⟩ =>
    if op = 2 then [⟨0, s⟩]
    else if op = 3 ∨ op = 4 ∨ op = 5 then [rdef, rdef]
    else if op = 6 then lnest n ((lopens kids).getD 0 [])
    else if op = 7 then lcat ((lopens kids).getD 0 []) ((lopens kids).getD 1 [])
    else if op = 8 then (lopens kids).getD 0 []
    else [rdef]
def lopens : List Doc → List (List Row)
  | [] => []
  | d :: ds => lopen d :: lopens ds
end
theorem lopens_get : ∀ (ds : List Doc) (i : Nat), i < ds.length → (lopens ds).getD i [] = lopen (ds.getD i default)
  | [], i, h => by simp at h
  | d :: ds, 0, _ => by simp [lopens]
  | d :: ds, i + 1, h => by simp only [lopens, List.getD_cons_succ]; exact lopens_get ds i (by simpa using h)
theorem lopen_eq (v : Doc) : lopen v = if v.op = 2 then [⟨0, v.text⟩]
    else if v.op = 3 ∨ v.op = 4 ∨ v.op = 5 then [rdef, rdef]
    else if v.op = 6 then lnest v.n ((lopens v.kids).getD 0 [])
    else if v.op = 7 then lcat ((lopens v.kids).getD 0 []) ((lopens v.kids).getD 1 [])
    else if v.op = 8 then (lopens v.kids).getD 0 []
    else [rdef] := by cases v; simp only [lopen]
def rsum : List Row → Int
  | [] => 0
  | r :: rs => 1 + r.text.size + rsum rs
theorem rsum_append (a b : List Row) : rsum (a ++ b) = rsum a + rsum b := by
  induction a with
  | nil => simp [rsum]
  | cons x a ih => simp only [List.cons_append, rsum, ih]; omega
theorem rsum_len : ∀ a : List Row, (a.length : Int) ≤ rsum a
  | [] => by simp [rsum]
  | x :: a => by have := rsum_len a; simp only [rsum, List.length_cons]; omega
theorem rsum_get : ∀ (a : List Row) (i : Nat), i < a.length → 1 + ((a.getD i default).text.size : Int) ≤ rsum a
  | [], i, h => by simp at h
  | x :: a, 0, _ => by have := rsum_len a; simp only [rsum, List.getD_cons_zero]; omega
  | x :: a, i + 1, h => by have := rsum_get a i (by simpa using h); simp only [rsum, List.getD_cons_succ]; omega
/-- All indentations are between 0 and m. -/
def indOk (m : Int) (l : List Row) : Prop := ∀ r ∈ l, 0 ≤ r.indent ∧ r.indent ≤ m
theorem indOk.get {m : Int} {l : List Row} (h : indOk m l) (i : Nat) (hi : i < l.length) : 0 ≤ (l.getD i default).indent ∧ (l.getD i default).indent ≤ m := by
  rw [getD_lt' l default i hi]; exact h _ (List.getElem_mem hi)
theorem c_clone_rows (a : List Row) (h : 0 < a.length) (h2 : a.length ≤ 1000000000) : GC Try.prog 124 [] [.d (.rows a)] (fun os r => ∃ k more, os = .row 91 (.rows a) k :: more ∧ r = .row 0 k) := by
  refine GC.intro hT Try.func124 rfl (by decide) ?_
  intro F hF
  simp only [startAS, Try.f124, go_sem]
  refine AW.seq ?_
  refine AW.r hT ?_
  refine AW.seq ?_
  refine AW.seq ?_
  refine AW.r hT ?_
  refine AW.c (fun h => ?_) (fun h => ?_)
  · skip
    exact absurd h (by simp)
  · skip
    refine AW.skip ?_
    refine AW.seq ?_
    refine AW.r hT ?_
    refine AW.ret ?_
    simp only [go_sem, simprocAttr]
    exact ⟨_, _, rfl, rfl⟩
theorem c_spec_l2Nest (n : Int) (hn : 0 ≤ n) (hn2 : n ≤ 1000000000) (l : List Row) (h0 : 0 < l.length) (hl : l.length ≤ 1000000000) (hi : indOk 1000000000 l) : PC Try.prog 108 [iv .i64 n, .d (.rows l)] (fun r => r = .d (.rows (lnest n l))) := by
  refine PC.intro hT Try.func108 rfl (by decide) ?_
  intro F hF
  simp only [startAS, Try.f108, go_sem]
  refine AW.seq ?_
  refine AW.r hT ?_
  refine AW.seq ?_
  refine AW.r hT ?_
  refine AW.seq ?_
  refine AW.seq ?_
  refine AW.r hT ?_
  refine AW.block ?_
  refine AW.loop (ι := Nat) (fun i => 1 ≤ i ∧ (i ≤ l.length ∨ i = 1)) (fun i => ⟨[iv .i64 n, .d (.rows l)] ++ List.replicate 3 .dead ++ [.row 0 1, iv .i64 i] ++ List.replicate 21 .dead, [.row 91 (.rows (nstI n l i)) 1]⟩) (fun i => l.length - i) 1 ⟨Nat.le_refl _, .inr rfl⟩ (fun _ => by rw [hF]; first | exact Nat.zero_le _ | simp) ?_ ?_
  · simp only [go_sem, simprocAttr]
    all_goals (simp [nstI_one])
  · intro i hv
    have hi1 := hv.1
    have hml := nstI_len n l i
    refine AW.seq ?_
    refine AW.seq ?_
    refine AW.r hT ?_
    refine AW.c (fun h => ?_) (fun h => ?_)
    · skip
      have hlt : i < l.length := by omega
      refine AW.skip ?_
      refine AW.seq ?_
      refine AW.block ?_
      refine AW.r hT ?_
      refine AW.r hT ?_
      refine ⟨i + 1, ⟨by omega, .inl (by omega)⟩, (by show _ - (i + 1) < _ - i; omega), ?_⟩
      simp only [go_sem, simprocAttr]
      have hg := nstI_get n l i i hlt
      rw [if_neg (by omega)] at hg
      have hind := hi.get i hlt
      rw [hg, wrapId (n := (l.getD i default).indent + n) (by omega) (by omega), wrapId (by omega) (by omega)]
      exact ⟨by omega, (nstI_set n l i (by omega) hlt).symm⟩
    · skip
      refine AW.exit ?_
      simp only [go_sem, simprocAttr]
      refine AW.seq ?_
      refine AW.r hT ?_
      refine AW.ret ?_
      simp only [go_sem, simprocAttr]
      rw [nstI_all n l i (by omega)]
theorem c_impl_nestRows (n : Int) (hn : 0 ≤ n) (hn2 : n ≤ 1000000000) (l : List Row) (h0 : 0 < l.length) (hl : l.length ≤ 1000000000) (hi : indOk 1000000000 l) : PC Try.prog 112 [iv .i64 n, .d (.rows l)] (fun r => r = .d (.rows (lnest n l))) := by
  refine PC.intro hT Try.func112 rfl (by decide) ?_
  intro F hF
  simp only [startAS, Try.f112, go_sem]
  refine AW.seq ?_
  refine AW.r hT ?_
  refine AW.seq ?_
  refine AW.region ?_
  refine AL.u hT ?_
  refine AL.cH [] [0] (c_clone_rows l h0 hl) ?_
  rintro os r ⟨k, more, rfl, rfl⟩
  refine ⟨by simp, by simp, ?_⟩
  simp only [go_sem, simprocAttr]
  refine AL.e hT ?_
  refine AW.seq ?_
  refine AW.seq ?_
  refine AW.r hT ?_
  refine AW.block ?_
  refine AW.loop (ι := Nat) (fun i => 1 ≤ i ∧ (i ≤ l.length ∨ i = 1)) (fun i => ⟨[iv .i64 n, .d (.rows l)] ++ List.replicate 3 .dead ++ [.row 0 k, iv .i64 i] ++ List.replicate 18 .dead, [.row 91 (.rows (nstI n l i)) k]⟩) (fun i => l.length - i) 1 ⟨Nat.le_refl _, .inr rfl⟩ (fun _ => by rw [hF]; first | exact Nat.zero_le _ | simp) ?_ ?_
  · simp only [go_sem, simprocAttr]
    all_goals (simp [nstI_one])
  · intro i hv
    have hi1 := hv.1
    have hml := nstI_len n l i
    refine AW.seq ?_
    refine AW.seq ?_
    refine AW.r hT ?_
    refine AW.c (fun h => ?_) (fun h => ?_)
    · skip
      have hlt : i < l.length := by omega
      refine AW.skip ?_
      refine AW.seq ?_
      refine AW.block ?_
      refine AW.r hT ?_
      refine AW.r hT ?_
      refine ⟨i + 1, ⟨by omega, .inl (by omega)⟩, (by show _ - (i + 1) < _ - i; omega), ?_⟩
      simp only [go_sem, simprocAttr]
      have hg := nstI_get n l i i hlt
      rw [if_neg (by omega)] at hg
      have hind := hi.get i hlt
      rw [hg, wrapId (n := (l.getD i default).indent + n) (by omega) (by omega), wrapId (by omega) (by omega)]
      exact ⟨by omega, (nstI_set n l i (by omega) hlt).symm⟩
    · skip
      refine AW.exit ?_
      simp only [go_sem, simprocAttr]
      refine AW.seq ?_
      refine AW.r hT ?_
      refine AW.ret ?_
      simp only [go_sem, simprocAttr]
      rw [nstI_all n l i (by omega)]
theorem c_spec_l2Cat (a b : List Row) (ha : 0 < a.length) (hb : 0 < b.length) (hz : rsum a ≤ 100000000) (hz2 : rsum b ≤ 100000000) : PC Try.prog 109 [.d (.rows a), .d (.rows b)] (fun r => r = .d (.rows (lcat a b))) := by
  have hla := rsum_len a
  have hlb := rsum_len b
  have hga := rsum_get a (a.length - 1) (by omega)
  have hgb := rsum_get b 0 hb
  have hwl : IntKind.i64.wrap ((a.length : Int) - 1) = ((a.length - 1 : Nat) : Int) := by rw [wrapId (by omega) (by omega)]; omega
  refine PC.intro hT Try.func109 rfl (by decide) ?_
  intro F hF
  simp only [startAS, Try.f109, go_sem]
  refine AW.seq ?_
  refine AW.r hT ?_
  refine AW.seq ?_
  refine AW.r hT ?_
  refine AW.seq ?_
  refine AW.r hT ?_
  rw [hwl]
  refine AW.seq ?_
  refine AW.draw hT 12 (by decide) ?_
  simp only [go_sem, simprocAttr]
  refine DL.fin (by simp only [go_sem, simprocAttr]; rfl) (by (try simp only [List.length_append, List.length_set, List.length_take, List.length_drop]); (try unfold maxLen); (repeat' apply And.intro) <;> first | trivial | omega) ?_
  refine AL.e hT ?_
  refine AW.seq ?_
  refine AW.reg hT (by simp only [go_sem, simprocAttr]; rfl) (by (try simp only [List.length_append, List.length_set, List.length_take, List.length_drop]); (try unfold maxLen); (repeat' apply And.intro) <;> first | trivial | omega) ?_
  refine AW.ret ?_
  simp only [go_sem, simprocAttr]
  rw [List.take_of_length_le (by simp)]
  rfl
theorem c_impl_catRows (a b : List Row) (ha : 0 < a.length) (hb : 0 < b.length) (hz : rsum a ≤ 100000000) (hz2 : rsum b ≤ 100000000) : PC Try.prog 113 [.d (.rows a), .d (.rows b)] (fun r => r = .d (.rows (lcat a b))) := by
  have hla := rsum_len a
  have hlb := rsum_len b
  have hga := rsum_get a (a.length - 1) (by omega)
  have hgb := rsum_get b 0 hb
  have hwl : IntKind.i64.wrap ((a.length : Int) - 1) = ((a.length - 1 : Nat) : Int) := by rw [wrapId (by omega) (by omega)]; omega
  refine PC.intro hT Try.func113 rfl (by decide) ?_
  intro F hF
  simp only [startAS, Try.f113, go_sem]
  refine AW.seq ?_
  refine AW.r hT ?_
  refine AW.seq ?_
  refine AW.ghost 91 (.rows []) ?_
  simp only [go_sem, simprocAttr]
  refine AW.drawQ hT 4 [0, 2, 3, 1] [1] 0 (by decide) (CallN.isOk (by simp)) rfl ?_
  simp only [go_sem, simprocAttr]
  refine DQ.u ?_
  refine DQ.cN (c_clone_rows a ha (by omega)) ?_
  rintro os r ⟨k, more, rfl, rfl⟩
  refine ⟨_, _, _, _, rfl, rfl, ?_⟩
  simp only [go_sem, simprocAttr]
  show AL _ _ _ _ _ _
  try simp only [go_sem, simprocAttr]
  refine AL.fin hT (by simp only [go_sem, simprocAttr]; rfl) (by (try simp only [List.length_append, List.length_set, List.length_take, List.length_drop]); (try unfold maxLen); (repeat' apply And.intro) <;> first | trivial | omega) ?_
  refine AW.seq ?_
  refine AW.draw hT 11 (by decide) ?_
  simp only [go_sem, simprocAttr]
  refine DL.fin (by simp only [go_sem, simprocAttr]; rfl) (by rw [hwl]; (try simp only [List.length_append, List.length_set, List.length_take, List.length_drop]); (try unfold maxLen); (repeat' apply And.intro) <;> first | trivial | omega) ?_
  refine AL.fin hT (by simp only [go_sem, simprocAttr]; rfl) (by rw [hwl, Int.toNat_natCast, List.take_of_length_le (by simp), cat_get a b ha]; (try simp only [List.length_append, List.length_set, List.length_take, List.length_drop]); (try unfold maxLen); (repeat' apply And.intro) <;> first | trivial | omega) ?_
  refine AW.seq ?_
  refine AW.r hT ?_
  refine AW.ret ?_
  simp only [go_sem, simprocAttr]
  rw [hwl, Int.toNat_natCast, List.take_of_length_le (by simp), cat_set a b ha]

end Go.Proofs.Ytkcienioaodnbaa

