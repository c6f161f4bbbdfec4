import Derived.Test.YtkcienioaodnbaaD3
import Derived.Test.YtkcienioaodnbaaR1
namespace Go.Proofs.Ytkcienioaodnbaa
open Go.Proofs.YtkcienioaodnbaaAw Go.RowKit
set_option linter.unusedVariables false
set_option linter.unusedSimpArgs false
set_option maxRecDepth 20000
set_option maxHeartbeats 2000000
attribute [local go_sem] runL stepL runQ stepQ isStop AV.closed AV.closedL clo guardB isCall objOp pureOp ops opo opv cellsOf leafB putT constAV fitC loadA cut storeA storeR splice fieldA indexA lenA slOf slOfD binA binI binS binB binG unA pickA convA nilCheckA extractA sliceA sliceD natA toP sliceStr indexStr szB buildSliceA partsA inOrder freezeL freeze1 freezeV freezeVs appendA makeA minA buildA fieldsA verOf dtAt Ob.ver Ob.dt Dt.isSl Dt.len Dt.sz Dt.el Dt.snoc Dt.app Dt.app2 Dt.sub Dt.withEl Dt.zeros mkDoc mkVal mkRow mkRows mkStr mkInt mkByte mkBool mkPiece mkItem asDocs asVals asStrs asInts asRows Doc.cells Val.cells Row.cells Piece.cells Item.cells Doc.eta Val.eta calleeA callArgs calleeO opoL Le LeL LeO LeB LeV AV.under AV.underL Dt.docs.injEq Dt.vals.injEq Dt.rows.injEq Dt.rowss.injEq Dt.strs.injEq Dt.ints.injEq Dt.bytes.injEq Dt.bools.injEq Dt.pieces.injEq Dt.items.injEq eq_self retK retOK resA oneV thenQ blockQ loopQ cutQ retQ retOQ T1 ti1 T2 ti2 T3 ti3 T4 ti4 T5 ti5 T6 ti6 T7 ti7 T8 ti8 T9 ti9 T10 ti10 T11 ti11 T12 ti12 T13 ti13 T14 ti14 T15 ti15 T16 ti16 T17 ti17 T18 ti18 T19 ti19 T21 ti21 T22 ti22 T23 ti23 T24 ti24 T26 ti26 T27 ti27 T28 ti28 T29 ti29 T30 ti30 T31 ti31 T32 ti32 T33 ti33 T34 ti34 T35 ti35 T36 ti36 T37 ti37 T38 ti38 T39 ti39 T40 ti40 T41 ti41 T42 ti42 T44 ti44 T45 ti45 T46 ti46 T47 ti47 T48 ti48 T49 ti49 T50 ti50 T51 ti51 T52 ti52 T53 ti53 T54 ti54 T55 ti55 T56 ti56 T57 ti57 T58 ti58 T59 ti59 T60 ti60 T61 ti61 T62 ti62 T63 ti63 T64 ti64 T65 ti65 T66 ti66 T67 ti67 T68 ti68 T69 ti69 T70 ti70 T71 ti71 T72 ti72 T73 ti73 T74 ti74 T75 ti75 T76 ti76 T77 ti77 T78 ti78 T79 ti79 T80 ti80 T81 ti81 T82 ti82 T83 ti83 T84 ti84 T85 ti85 T86 ti86 T87 ti87 T88 ti88 T89 ti89 T90 ti90 T91 ti91 T92 ti92 T93 ti93 T94 ti94 T95 ti95 T96 ti96 T97 ti97 T98 ti98 T99 ti99 T100 ti100 T101 ti101 T102 ti102 T103 ti103 T104 ti104 T105 ti105 T106 ti106 T107 ti107 T108 ti108 T109 ti109 T110 ti110 T111 ti111 T112 ti112 T113 ti113 T114 ti114 T115 ti115 T116 ti116 T118 ti118 T119 ti119 T121 ti121 T122 ti122 T123 ti123 T124 ti124 T125 ti125 T126 ti126 T127 ti127 T131 ti131 T132 ti132 T133 ti133 T134 ti134 T135 ti135 T136 ti136 T137 ti137 T138 ti138 T139 ti139 T140 ti140 T120 ti120
attribute [local go_sem] runV AV.avoid AV.avoidL toH toH1 frH frH1 idx backs imps bump conv handB pickO all_some all_none false_implies implies_true Bool.not_true Bool.not_false Bool.or_true Bool.true_or Bool.or_false Bool.false_or List.getD_cons_zero List.getD_cons_succ List.getD_nil List.set_cons_zero List.set_cons_succ List.length_cons List.length_nil List.nil_append List.cons_append List.append_nil List.all_cons List.all_nil List.map_cons List.map_nil Bool.and_self Bool.and_true Bool.true_and if_true if_false ite_true ite_false Option.bind_some Option.bind_none Option.map_some Option.map_none Option.getD_some Option.getD_none List.getElem?_cons_zero List.getElem?_cons_succ List.getElem?_nil List.drop_zero List.drop_succ_cons List.drop_nil List.take_succ_cons List.take_zero List.take_nil Bool.false_eq_true Bool.cond_true_left Bool.cond_false_right beq_self_eq_true decide_true decide_false and_true true_and and_self List.toList_toArray reduceCtorEq List.replicate startAS Int.toNat_natCast



theorem dis_parts {d : Nat} {v : Doc} (h : dis d v = true) : d ≠ 0 ∧ 1 ≤ v.op ∧ v.op ≤ 8 ∧ v.kids.length = kn v.op ∧ (v.op = 2 → tok v.text = true) ∧ (v.op ≠ 2 → v.text = ⟨#[]⟩) ∧ (v.op = 6 → 0 ≤ v.n ∧ v.n ≤ 9) ∧ (v.op ≠ 6 → v.n = 0) ∧ diss (d - 1) v.kids = true := by
  rw [dis_eq] at h
  split at h
  · cases h
  · rename_i h1
    split at h
    · cases h
    · rename_i h2
      split at h
      · cases h
      · rename_i h3
        refine ⟨by omega, by omega, by omega, by omega, fun e => ?_, fun e => ?_, fun e => by omega, fun e => by omega, h⟩
        · cases ht : tok v.text with
          | true => rfl
          | false => exact absurd (.inl ⟨e, ht⟩) h2
        · exact Decidable.byContradiction fun e2 => h2 (.inr ⟨e, e2⟩)
theorem diss_get {d : Nat} : ∀ {xs : List Doc} {i : Nat}, diss d xs = true → i < xs.length → dis d (xs.getD i default) = true
  | [], i, _, h => by simp at h
  | x :: xs, 0, h, _ => by simp only [diss, Bool.and_eq_true] at h; exact h.1
  | x :: xs, i + 1, h, hl => by simp only [diss, Bool.and_eq_true] at h; simp only [List.getD_cons_succ]; exact diss_get h.2 (by simpa using hl)
mutual
/-- How much a document's layout may hold. -/
def dtot : Doc → Int
  | ⟨_, _, s, kids⟩ => 2 + s.size + dtots kids
def dtots : List Doc → Int
  | [] => 0
  | d :: ds => dtot d + dtots ds
end
theorem dtot_eq (v : Doc) : dtot v = 2 + v.text.size + dtots v.kids := by cases v; rfl
mutual
theorem dtot_pos : ∀ v : Doc, 2 ≤ dtot v
  | ⟨_, _, s, kids⟩ => by have := dtots_nonneg kids; simp only [dtot]; omega
theorem dtots_nonneg : ∀ vs : List Doc, 0 ≤ dtots vs
  | [] => Int.le_refl _
  | v :: vs => by have := dtot_pos v; have := dtots_nonneg vs; simp only [dtots]; omega
end
theorem dtots_get : ∀ (xs : List Doc) (i : Nat), i < xs.length → dtot (xs.getD i default) ≤ dtots xs
  | [], i, h => by simp at h
  | x :: xs, 0, _ => by have := dtots_nonneg xs; simp only [List.getD_cons_zero, dtots]; omega
  | x :: xs, i + 1, h => by have := dtot_pos x; have := dtots_get xs i (by simpa using h); simp only [List.getD_cons_succ, dtots]; omega
theorem dtots_two (xs : List Doc) (h : 2 ≤ xs.length) : dtot (xs.getD 0 default) + dtot (xs.getD 1 default) ≤ dtots xs := by
  match xs, h with
  | a :: b :: r, _ => have := dtots_nonneg r; simp only [List.getD_cons_zero, List.getD_cons_succ, dtots]; omega
theorem tok_len {s : ByteArray} (h : tok s = true) : 1 ≤ s.size ∧ s.size ≤ 12 := by
  unfold tok at h
  simp only [Bool.and_eq_true, decide_eq_true_eq] at h
  exact h.2
mutual
theorem dtot_count : ∀ (d : Nat) (v : Doc), dis d v = true → dtot v ≤ 14 * dcount v
  | d, ⟨op, n, s, kids⟩, h => by
      obtain ⟨_, _, _, _, h5, h6, _, _, h9⟩ := dis_parts h
      have := dtots_count (d - 1) kids h9
      simp only at h5 h6
      simp only [dtot, dcount]
      by_cases e : op = 2
      · have := tok_len (h5 e); omega
      · rw [h6 e]
        have : ((⟨#[]⟩ : ByteArray).size : Int) = 0 := rfl
        omega
theorem dtots_count : ∀ (d : Nat) (vs : List Doc), diss d vs = true → dtots vs ≤ 14 * dcounts vs
  | d, [], _ => by simp [dtots, dcounts]
  | d, v :: vs, h => by
      simp only [diss, Bool.and_eq_true] at h
      have := dtot_count d v h.1
      have := dtots_count d vs h.2
      simp only [dtots, dcounts]; omega
end
theorem lnest_cons (n : Int) (r : Row) (rs : List Row) : lnest n (r :: rs) = r :: rs.map (inRow n) := by
  refine List.ext_getElem? fun j => ?_
  unfold lnest nstI
  rw [List.getElem?_map]
  by_cases h : j < (r :: rs).length
  · rw [List.getElem?_range h]
    simp only [Option.map_some]
    cases j with
    | zero => rw [if_neg (by omega)]; rfl
    | succ j =>
      rw [if_pos (by omega)]
      have hj : j < rs.length := by simpa using h
      rw [List.getElem?_cons_succ, List.getElem?_map, List.getElem?_eq_getElem hj, List.getD_cons_succ, getD_lt' rs default j hj]
      rfl
  · rw [List.getElem?_eq_none (by simpa using h), List.getElem?_eq_none (by simp at h ⊢; omega)]; rfl
theorem rsum_map (n : Int) : ∀ rs : List Row, rsum (rs.map (inRow n)) = rsum rs
  | [] => rfl
  | r :: rs => by simp only [List.map_cons, rsum, rsum_map n rs]; rfl
theorem rsum_lnest (n : Int) (l : List Row) : rsum (lnest n l) = rsum l := by
  cases l with
  | nil => rfl
  | cons r rs => rw [lnest_cons]; simp only [rsum, rsum_map]
theorem lnest_len (n : Int) (l : List Row) : (lnest n l).length = l.length := nstI_len n l _
theorem lnest_ind {m n : Int} {l : List Row} (h : indOk m l) (hn : 0 ≤ n) : indOk (m + n) (lnest n l) := by
  cases l with
  | nil => intro r hr; cases hr
  | cons x xs =>
    rw [lnest_cons]
    intro r hr
    rcases List.mem_cons.1 hr with rfl | hr
    · have := h r (by simp); omega
    · obtain ⟨y, hy, rfl⟩ := List.mem_map.1 hr
      have := h y (by simp [hy])
      show 0 ≤ y.indent + n ∧ y.indent + n ≤ m + n
      omega
theorem rsum_set : ∀ (a : List Row) (i : Nat) (x : Row), i < a.length → rsum (a.set i x) + (a.getD i default).text.size = rsum a + x.text.size
  | [], i, x, h => by simp at h
  | y :: a, 0, x, _ => by simp only [List.set_cons_zero, rsum, List.getD_cons_zero]; omega
  | y :: a, i + 1, x, h => by
      have := rsum_set a i x (by simpa using h)
      simp only [List.set_cons_succ, rsum, List.getD_cons_succ]; omega
theorem rsum_drop : ∀ (b : List Row), 0 < b.length → rsum (b.drop 1) + 1 + (b.getD 0 default).text.size = rsum b
  | [], h => by simp at h
  | y :: b, _ => by simp only [List.drop_succ_cons, List.drop_zero, rsum, List.getD_cons_zero]; omega
theorem rsum_lcat (a b : List Row) (ha : 0 < a.length) (hb : 0 < b.length) : rsum (lcat a b) + 1 = rsum a + rsum b := by
  unfold lcat
  rw [rsum_append]
  have h1 := rsum_set a (a.length - 1) ⟨(a.getD (a.length - 1) default).indent, (a.getD (a.length - 1) default).text ++ (b.getD 0 default).text⟩ (by omega)
  have h2 := rsum_drop b hb
  rw [ByteArray.size_append] at h1
  omega
theorem lcat_len (a b : List Row) : (lcat a b).length = a.length + (b.length - 1) := by simp [lcat]
theorem lcat_ind {m : Int} {a b : List Row} (ha : 0 < a.length) (h1 : indOk m a) (h2 : indOk m b) : indOk m (lcat a b) := by
  intro r hr
  unfold lcat at hr
  rcases List.mem_append.1 hr with hr | hr
  · rcases List.mem_or_eq_of_mem_set hr with hr | rfl
    · exact h1 r hr
    · exact h1.get (a.length - 1) (by omega)
  · exact h2 r (List.mem_of_mem_drop hr)
theorem indOk.le {m n : Int} {l : List Row} (h : indOk m l) (hm : m ≤ n) : indOk n l := fun r hr => by have := h r hr; omega
theorem rdef_ind (m : Int) (hm : 0 ≤ m) : 0 ≤ rdef.indent ∧ rdef.indent ≤ m := by unfold rdef; exact ⟨Int.le_refl _, hm⟩
mutual
theorem lopen_ok : ∀ (d : Nat) (v : Doc), dis d v = true → 0 < (lopen v).length ∧ rsum (lopen v) ≤ dtot v ∧ indOk (9 * d) (lopen v)
  | d, ⟨op, n, s, kids⟩, h => by
      obtain ⟨h1, h2, h3, h4, h5, h6, h7, h8, h9⟩ := dis_parts h
      have ih := lopens_ok (d - 1) kids h9
      simp only at h2 h3 h4 h5 h6 h7 h8
      have hs : (0 : Int) ≤ s.size := by omega
      have hk := dtots_nonneg kids
      simp only [lopen, dtot]
      have hr : ((rdef.text.size : Nat) : Int) = 0 := rfl
      split
      · refine ⟨by simp, by simp only [rsum]; omega, fun r hr => ?_⟩
        rw [List.mem_singleton.1 hr]
        show 0 ≤ (0 : Int) ∧ (0 : Int) ≤ 9 * d
        omega
      · split
        · refine ⟨by simp, by simp only [rsum]; omega, fun r hr => ?_⟩
          have : r = rdef := by simpa using hr
          rw [this]; exact rdef_ind _ (by omega)
        · split
          · rename_i e6
            have hl : kids.length = 1 := by rw [h4]; unfold kn; rw [if_pos (by omega)]
            obtain ⟨a1, a2, a3⟩ := ih 0 (by omega)
            rw [lopens_get kids 0 (by omega)]
            have := dtots_get kids 0 (by omega)
            have hn := h7 e6
            exact ⟨by rw [lnest_len]; exact a1, by rw [rsum_lnest]; omega, (lnest_ind a3 hn.1).le (by omega)⟩
          · split
            · rename_i e7
              have hl : kids.length = 2 := by rw [h4]; unfold kn; rw [if_neg (by omega), if_pos e7]
              obtain ⟨a1, a2, a3⟩ := ih 0 (by omega)
              obtain ⟨b1, b2, b3⟩ := ih 1 (by omega)
              rw [lopens_get kids 0 (by omega), lopens_get kids 1 (by omega)]
              have := dtots_two kids (by omega)
              have hc := rsum_lcat _ _ a1 b1
              exact ⟨by rw [lcat_len]; omega, by omega, (lcat_ind a1 a3 b3).le (by omega)⟩
            · split
              · have hl : kids.length = 1 := by rw [h4]; unfold kn; rw [if_pos (by omega)]
                obtain ⟨a1, a2, a3⟩ := ih 0 (by omega)
                rw [lopens_get kids 0 (by omega)]
                have := dtots_get kids 0 (by omega)
                exact ⟨a1, by omega, a3.le (by omega)⟩
              · refine ⟨by simp, by simp only [rsum]; omega, fun r hr => ?_⟩
                have : r = rdef := by simpa using hr
                rw [this]; exact rdef_ind _ (by omega)
theorem lopens_ok : ∀ (d : Nat) (vs : List Doc), diss d vs = true → ∀ i, i < vs.length → 0 < (lopen (vs.getD i default)).length ∧ rsum (lopen (vs.getD i default)) ≤ dtot (vs.getD i default) ∧ indOk (9 * d) (lopen (vs.getD i default))
  | d, [], _, i, h => by simp at h
  | d, v :: vs, h, 0, _ => by
      simp only [diss, Bool.and_eq_true] at h
      exact lopen_ok d v h.1
  | d, v :: vs, h, i + 1, hl => by
      simp only [diss, Bool.and_eq_true] at h
      simp only [List.getD_cons_succ]
      exact lopens_ok d vs h.2 i (by simpa using hl)
end
theorem kn6 {op : Int} (h : op = 6 ∨ op = 8) : kn op = 1 := by unfold kn; rw [if_pos h]
theorem kn7 {op : Int} (h : op = 7) : kn op = 2 := by unfold kn; rw [if_neg (by omega), if_pos h]
theorem c_spec_l2Open (v : Doc) (d : Nat) (hd : d ≤ 1000) (hv : dis d v = true) (hz : dtot v ≤ 100000) : PC Try.prog 65 [.agg (v.cells.map .d)] (fun r => r = .d (.rows (lopen v))) := by
  obtain ⟨h1, h2, h3, h4, h5, h6, h7, h8, h9⟩ := dis_parts hv
  have htt := dtot_eq v
  have htn := dtots_nonneg v.kids
  refine PC.intro hT Try.func65 rfl (by decide) ?_
  intro F hF
  simp only [startAS, Try.f65, go_sem]
  refine AW.seq ?_
  refine AW.r hT ?_
  refine AW.seq ?_
  refine AW.seq ?_
  refine AW.r hT ?_
  refine AW.block ?_
  refine AW.seq ?_
  refine AW.r hT ?_
  refine AW.c (fun h => ?_) (fun h => ?_)
  · skip
    refine AW.seq ?_
    refine AW.r hT ?_
    refine AW.ret ?_
    simp only [go_sem, simprocAttr]
    rw [lopen_eq v, if_pos h]
  · skip
    refine AW.seq ?_
    refine AW.seq ?_
    refine AW.r hT ?_
    refine AW.c (fun h => ?_) (fun h => ?_)
    · skip
      refine AW.skip ?_
      refine AW.c (fun h => ?_) (fun h => ?_)
      · skip
        refine AW.seq ?_
        refine AW.r hT ?_
        refine AW.ret ?_
        simp only [go_sem, simprocAttr]
        rw [lopen_eq v, if_neg (by omega), if_pos (by omega)]
        rfl
      · skip
        refine AW.seq ?_
        refine AW.r hT ?_
        refine AW.c (fun h => ?_) (fun h => ?_)
        · skip
          have hk := kn6 (.inl h)
          rw [hk] at h4
          obtain ⟨a1, a2, a3⟩ := lopens_ok (d - 1) v.kids h9 0 (by omega)
          have ag := dtots_get v.kids 0 (by omega)
          have al := rsum_len (lopen (v.kids.getD 0 default))
          have hn6 := h7 h
          refine AW.seq ?_
          refine AW.draw hT 7 (by decide) ?_
          simp only [go_sem, simprocAttr]
          refine DL.u ?_
          refine DL.c (c_spec_l2Open (v.kids.getD 0 default) (d - 1) (by omega) (diss_get h9 (by omega)) (by have := dtots_get v.kids 0 (by omega); omega)) ?_
          simp only [go_sem, simprocAttr]
          refine DL.e ?_
          refine AL.c (c_spec_l2Nest v.n (by omega) (by omega) (lopen (v.kids.getD 0 default)) a1 (by omega) (a3.le (by omega))) ?_
          rintro r rfl
          refine AL.e hT ?_
          refine AW.ret ?_
          simp only [go_sem, simprocAttr]
          rw [lopen_eq v, if_neg (by omega), if_neg (by omega), if_pos h, lopens_get v.kids 0 (by omega)]
        · skip
          refine AW.seq ?_
          refine AW.r hT ?_
          refine AW.c (fun h => ?_) (fun h => ?_)
          · skip
            have hk := kn7 h
            rw [hk] at h4
            obtain ⟨a1, a2, a3⟩ := lopens_ok (d - 1) v.kids h9 0 (by omega)
            obtain ⟨b1, b2, b3⟩ := lopens_ok (d - 1) v.kids h9 1 (by omega)
            have ag := dtots_two v.kids (by omega)
            have agp := dtot_pos (v.kids.getD 0 default)
            have agq := dtot_pos (v.kids.getD 1 default)
            refine AW.seq ?_
            refine AW.draw hT 9 (by decide) ?_
            simp only [go_sem, simprocAttr]
            refine DL.u ?_
            refine DL.c (c_spec_l2Open (v.kids.getD 0 default) (d - 1) (by omega) (diss_get h9 (by omega)) (by have := dtots_get v.kids 0 (by omega); omega)) ?_
            simp only [go_sem, simprocAttr]
            refine DL.e ?_
            refine AL.c (c_spec_l2Open (v.kids.getD 1 default) (d - 1) (by omega) (diss_get h9 (by omega)) (by have := dtots_get v.kids 1 (by omega); omega)) ?_
            rintro r rfl
            refine AL.c (c_spec_l2Cat (lopen (v.kids.getD 0 default)) (lopen (v.kids.getD 1 default)) a1 b1 (by omega) (by omega)) ?_
            rintro r rfl
            refine AL.e hT ?_
            refine AW.ret ?_
            simp only [go_sem, simprocAttr]
            rw [lopen_eq v, if_neg (by omega), if_neg (by omega), if_neg (by omega), if_pos h, lopens_get v.kids 0 (by omega), lopens_get v.kids 1 (by omega)]
          · skip
            refine AW.seq ?_
            refine AW.r hT ?_
            refine AW.c (fun h => ?_) (fun h => ?_)
            · skip
              have hk := kn6 (.inr h)
              rw [hk] at h4
              refine AW.seq ?_
              refine AW.region ?_
              refine AL.u hT ?_
              refine AL.c (c_spec_l2Open (v.kids.getD 0 default) (d - 1) (by omega) (diss_get h9 (by omega)) (by have := dtots_get v.kids 0 (by omega); omega)) ?_
              rintro r rfl
              refine AL.e hT ?_
              refine AW.ret ?_
              simp only [go_sem, simprocAttr]
              rw [lopen_eq v, if_neg (by omega), if_neg (by omega), if_neg (by omega), if_neg (by omega), if_pos h, lopens_get v.kids 0 (by omega)]
            · skip
              refine AW.skip ?_
              refine AW.seq ?_
              refine AW.r hT ?_
              refine AW.ret ?_
              simp only [go_sem, simprocAttr]
              rw [lopen_eq v, if_neg (by omega), if_neg (by omega), if_neg (by omega), if_neg (by omega), if_neg (by omega)]
              rfl
    · skip
      refine AW.seq ?_
      refine AW.r hT ?_
      refine AW.c (fun h => ?_) (fun h => ?_)
      · skip
        refine AW.skip ?_
        refine AW.c (fun h => ?_) (fun h => ?_)
        · skip
          refine AW.seq ?_
          refine AW.r hT ?_
          refine AW.ret ?_
          simp only [go_sem, simprocAttr]
          rw [lopen_eq v, if_neg (by omega), if_pos (by omega)]
          rfl
        · skip
          refine AW.seq ?_
          refine AW.r hT ?_
          refine AW.c (fun h => ?_) (fun h => ?_)
          · skip
            have hk := kn6 (.inl h)
            rw [hk] at h4
            obtain ⟨a1, a2, a3⟩ := lopens_ok (d - 1) v.kids h9 0 (by omega)
            have ag := dtots_get v.kids 0 (by omega)
            have al := rsum_len (lopen (v.kids.getD 0 default))
            have hn6 := h7 h
            refine AW.seq ?_
            refine AW.draw hT 7 (by decide) ?_
            simp only [go_sem, simprocAttr]
            refine DL.u ?_
            refine DL.c (c_spec_l2Open (v.kids.getD 0 default) (d - 1) (by omega) (diss_get h9 (by omega)) (by have := dtots_get v.kids 0 (by omega); omega)) ?_
            simp only [go_sem, simprocAttr]
            refine DL.e ?_
            refine AL.c (c_spec_l2Nest v.n (by omega) (by omega) (lopen (v.kids.getD 0 default)) a1 (by omega) (a3.le (by omega))) ?_
            rintro r rfl
            refine AL.e hT ?_
            refine AW.ret ?_
            simp only [go_sem, simprocAttr]
            rw [lopen_eq v, if_neg (by omega), if_neg (by omega), if_pos h, lopens_get v.kids 0 (by omega)]
          · skip
            refine AW.seq ?_
            refine AW.r hT ?_
            refine AW.c (fun h => ?_) (fun h => ?_)
            · skip
              have hk := kn7 h
              rw [hk] at h4
              obtain ⟨a1, a2, a3⟩ := lopens_ok (d - 1) v.kids h9 0 (by omega)
              obtain ⟨b1, b2, b3⟩ := lopens_ok (d - 1) v.kids h9 1 (by omega)
              have ag := dtots_two v.kids (by omega)
              have agp := dtot_pos (v.kids.getD 0 default)
              have agq := dtot_pos (v.kids.getD 1 default)
              refine AW.seq ?_
              refine AW.draw hT 9 (by decide) ?_
              simp only [go_sem, simprocAttr]
              refine DL.u ?_
              refine DL.c (c_spec_l2Open (v.kids.getD 0 default) (d - 1) (by omega) (diss_get h9 (by omega)) (by have := dtots_get v.kids 0 (by omega); omega)) ?_
              simp only [go_sem, simprocAttr]
              refine DL.e ?_
              refine AL.c (c_spec_l2Open (v.kids.getD 1 default) (d - 1) (by omega) (diss_get h9 (by omega)) (by have := dtots_get v.kids 1 (by omega); omega)) ?_
              rintro r rfl
              refine AL.c (c_spec_l2Cat (lopen (v.kids.getD 0 default)) (lopen (v.kids.getD 1 default)) a1 b1 (by omega) (by omega)) ?_
              rintro r rfl
              refine AL.e hT ?_
              refine AW.ret ?_
              simp only [go_sem, simprocAttr]
              rw [lopen_eq v, if_neg (by omega), if_neg (by omega), if_neg (by omega), if_pos h, lopens_get v.kids 0 (by omega), lopens_get v.kids 1 (by omega)]
            · skip
              refine AW.seq ?_
              refine AW.r hT ?_
              refine AW.c (fun h => ?_) (fun h => ?_)
              · skip
                have hk := kn6 (.inr h)
                rw [hk] at h4
                refine AW.seq ?_
                refine AW.region ?_
                refine AL.u hT ?_
                refine AL.c (c_spec_l2Open (v.kids.getD 0 default) (d - 1) (by omega) (diss_get h9 (by omega)) (by have := dtots_get v.kids 0 (by omega); omega)) ?_
                rintro r rfl
                refine AL.e hT ?_
                refine AW.ret ?_
                simp only [go_sem, simprocAttr]
                rw [lopen_eq v, if_neg (by omega), if_neg (by omega), if_neg (by omega), if_neg (by omega), if_pos h, lopens_get v.kids 0 (by omega)]
              · skip
                refine AW.skip ?_
                refine AW.seq ?_
                refine AW.r hT ?_
                refine AW.ret ?_
                simp only [go_sem, simprocAttr]
                rw [lopen_eq v, if_neg (by omega), if_neg (by omega), if_neg (by omega), if_neg (by omega), if_neg (by omega)]
                rfl
      · skip
        refine AW.r hT ?_
        refine AW.c (fun h => ?_) (fun h => ?_)
        · skip
          refine AW.seq ?_
          refine AW.r hT ?_
          refine AW.ret ?_
          simp only [go_sem, simprocAttr]
          rw [lopen_eq v, if_neg (by omega), if_pos (by omega)]
          rfl
        · skip
          refine AW.seq ?_
          refine AW.r hT ?_
          refine AW.c (fun h => ?_) (fun h => ?_)
          · skip
            have hk := kn6 (.inl h)
            rw [hk] at h4
            obtain ⟨a1, a2, a3⟩ := lopens_ok (d - 1) v.kids h9 0 (by omega)
            have ag := dtots_get v.kids 0 (by omega)
            have al := rsum_len (lopen (v.kids.getD 0 default))
            have hn6 := h7 h
            refine AW.seq ?_
            refine AW.draw hT 7 (by decide) ?_
            simp only [go_sem, simprocAttr]
            refine DL.u ?_
            refine DL.c (c_spec_l2Open (v.kids.getD 0 default) (d - 1) (by omega) (diss_get h9 (by omega)) (by have := dtots_get v.kids 0 (by omega); omega)) ?_
            simp only [go_sem, simprocAttr]
            refine DL.e ?_
            refine AL.c (c_spec_l2Nest v.n (by omega) (by omega) (lopen (v.kids.getD 0 default)) a1 (by omega) (a3.le (by omega))) ?_
            rintro r rfl
            refine AL.e hT ?_
            refine AW.ret ?_
            simp only [go_sem, simprocAttr]
            rw [lopen_eq v, if_neg (by omega), if_neg (by omega), if_pos h, lopens_get v.kids 0 (by omega)]
          · skip
            refine AW.seq ?_
            refine AW.r hT ?_
            refine AW.c (fun h => ?_) (fun h => ?_)
            · skip
              have hk := kn7 h
              rw [hk] at h4
              obtain ⟨a1, a2, a3⟩ := lopens_ok (d - 1) v.kids h9 0 (by omega)
              obtain ⟨b1, b2, b3⟩ := lopens_ok (d - 1) v.kids h9 1 (by omega)
              have ag := dtots_two v.kids (by omega)
              have agp := dtot_pos (v.kids.getD 0 default)
              have agq := dtot_pos (v.kids.getD 1 default)
              refine AW.seq ?_
              refine AW.draw hT 9 (by decide) ?_
              simp only [go_sem, simprocAttr]
              refine DL.u ?_
              refine DL.c (c_spec_l2Open (v.kids.getD 0 default) (d - 1) (by omega) (diss_get h9 (by omega)) (by have := dtots_get v.kids 0 (by omega); omega)) ?_
              simp only [go_sem, simprocAttr]
              refine DL.e ?_
              refine AL.c (c_spec_l2Open (v.kids.getD 1 default) (d - 1) (by omega) (diss_get h9 (by omega)) (by have := dtots_get v.kids 1 (by omega); omega)) ?_
              rintro r rfl
              refine AL.c (c_spec_l2Cat (lopen (v.kids.getD 0 default)) (lopen (v.kids.getD 1 default)) a1 b1 (by omega) (by omega)) ?_
              rintro r rfl
              refine AL.e hT ?_
              refine AW.ret ?_
              simp only [go_sem, simprocAttr]
              rw [lopen_eq v, if_neg (by omega), if_neg (by omega), if_neg (by omega), if_pos h, lopens_get v.kids 0 (by omega), lopens_get v.kids 1 (by omega)]
            · skip
              refine AW.seq ?_
              refine AW.r hT ?_
              refine AW.c (fun h => ?_) (fun h => ?_)
              · skip
                have hk := kn6 (.inr h)
                rw [hk] at h4
                refine AW.seq ?_
                refine AW.region ?_
                refine AL.u hT ?_
                refine AL.c (c_spec_l2Open (v.kids.getD 0 default) (d - 1) (by omega) (diss_get h9 (by omega)) (by have := dtots_get v.kids 0 (by omega); omega)) ?_
                rintro r rfl
                refine AL.e hT ?_
                refine AW.ret ?_
                simp only [go_sem, simprocAttr]
                rw [lopen_eq v, if_neg (by omega), if_neg (by omega), if_neg (by omega), if_neg (by omega), if_pos h, lopens_get v.kids 0 (by omega)]
              · skip
                refine AW.skip ?_
                refine AW.seq ?_
                refine AW.r hT ?_
                refine AW.ret ?_
                simp only [go_sem, simprocAttr]
                rw [lopen_eq v, if_neg (by omega), if_neg (by omega), if_neg (by omega), if_neg (by omega), if_neg (by omega)]
                rfl
termination_by SizeOf.sizeOf v
decreasing_by all_goals exact Doc.kid_lt v _ (by omega)
theorem c_impl_openRows (v : Doc) (d : Nat) (hd : d ≤ 1000) (hv : dis d v = true) (hz : dtot v ≤ 100000) : PC Try.prog 68 [.agg (v.cells.map .d)] (fun r => r = .d (.rows (lopen v))) := by
  obtain ⟨h1, h2, h3, h4, h5, h6, h7, h8, h9⟩ := dis_parts hv
  have htt := dtot_eq v
  have htn := dtots_nonneg v.kids
  refine PC.intro hT Try.func68 rfl (by decide) ?_
  intro F hF
  simp only [startAS, Try.f68, go_sem]
  refine AW.seq ?_
  refine AW.r hT ?_
  refine AW.seq ?_
  refine AW.seq ?_
  refine AW.r hT ?_
  refine AW.block ?_
  refine AW.seq ?_
  refine AW.r hT ?_
  refine AW.c (fun h => ?_) (fun h => ?_)
  · skip
    refine AW.seq ?_
    refine AW.r hT ?_
    refine AW.ret ?_
    simp only [go_sem, simprocAttr]
    rw [lopen_eq v, if_pos h]
  · skip
    refine AW.seq ?_
    refine AW.seq ?_
    refine AW.r hT ?_
    refine AW.c (fun h => ?_) (fun h => ?_)
    · skip
      refine AW.skip ?_
      refine AW.c (fun h => ?_) (fun h => ?_)
      · skip
        refine AW.seq ?_
        refine AW.r hT ?_
        refine AW.ret ?_
        simp only [go_sem, simprocAttr]
        rw [lopen_eq v, if_neg (by omega), if_pos (by omega)]
        rfl
      · skip
        refine AW.seq ?_
        refine AW.r hT ?_
        refine AW.c (fun h => ?_) (fun h => ?_)
        · skip
          have hk := kn6 (.inl h)
          rw [hk] at h4
          obtain ⟨a1, a2, a3⟩ := lopens_ok (d - 1) v.kids h9 0 (by omega)
          have ag := dtots_get v.kids 0 (by omega)
          have al := rsum_len (lopen (v.kids.getD 0 default))
          have hn6 := h7 h
          refine AW.seq ?_
          refine AW.draw hT 7 (by decide) ?_
          simp only [go_sem, simprocAttr]
          refine DL.u ?_
          refine DL.c (c_impl_openRows (v.kids.getD 0 default) (d - 1) (by omega) (diss_get h9 (by omega)) (by have := dtots_get v.kids 0 (by omega); omega)) ?_
          simp only [go_sem, simprocAttr]
          refine DL.e ?_
          refine AL.c (c_impl_nestRows v.n (by omega) (by omega) (lopen (v.kids.getD 0 default)) a1 (by omega) (a3.le (by omega))) ?_
          rintro r rfl
          refine AL.e hT ?_
          refine AW.ret ?_
          simp only [go_sem, simprocAttr]
          rw [lopen_eq v, if_neg (by omega), if_neg (by omega), if_pos h, lopens_get v.kids 0 (by omega)]
        · skip
          refine AW.seq ?_
          refine AW.r hT ?_
          refine AW.c (fun h => ?_) (fun h => ?_)
          · skip
            have hk := kn7 h
            rw [hk] at h4
            obtain ⟨a1, a2, a3⟩ := lopens_ok (d - 1) v.kids h9 0 (by omega)
            obtain ⟨b1, b2, b3⟩ := lopens_ok (d - 1) v.kids h9 1 (by omega)
            have ag := dtots_two v.kids (by omega)
            have agp := dtot_pos (v.kids.getD 0 default)
            have agq := dtot_pos (v.kids.getD 1 default)
            refine AW.seq ?_
            refine AW.draw hT 9 (by decide) ?_
            simp only [go_sem, simprocAttr]
            refine DL.u ?_
            refine DL.c (c_impl_openRows (v.kids.getD 0 default) (d - 1) (by omega) (diss_get h9 (by omega)) (by have := dtots_get v.kids 0 (by omega); omega)) ?_
            simp only [go_sem, simprocAttr]
            refine DL.e ?_
            refine AL.c (c_impl_openRows (v.kids.getD 1 default) (d - 1) (by omega) (diss_get h9 (by omega)) (by have := dtots_get v.kids 1 (by omega); omega)) ?_
            rintro r rfl
            refine AL.c (c_impl_catRows (lopen (v.kids.getD 0 default)) (lopen (v.kids.getD 1 default)) a1 b1 (by omega) (by omega)) ?_
            rintro r rfl
            refine AL.e hT ?_
            refine AW.ret ?_
            simp only [go_sem, simprocAttr]
            rw [lopen_eq v, if_neg (by omega), if_neg (by omega), if_neg (by omega), if_pos h, lopens_get v.kids 0 (by omega), lopens_get v.kids 1 (by omega)]
          · skip
            refine AW.seq ?_
            refine AW.r hT ?_
            refine AW.c (fun h => ?_) (fun h => ?_)
            · skip
              have hk := kn6 (.inr h)
              rw [hk] at h4
              refine AW.seq ?_
              refine AW.region ?_
              refine AL.u hT ?_
              refine AL.c (c_impl_openRows (v.kids.getD 0 default) (d - 1) (by omega) (diss_get h9 (by omega)) (by have := dtots_get v.kids 0 (by omega); omega)) ?_
              rintro r rfl
              refine AL.e hT ?_
              refine AW.ret ?_
              simp only [go_sem, simprocAttr]
              rw [lopen_eq v, if_neg (by omega), if_neg (by omega), if_neg (by omega), if_neg (by omega), if_pos h, lopens_get v.kids 0 (by omega)]
            · skip
              refine AW.skip ?_
              refine AW.seq ?_
              refine AW.r hT ?_
              refine AW.ret ?_
              simp only [go_sem, simprocAttr]
              rw [lopen_eq v, if_neg (by omega), if_neg (by omega), if_neg (by omega), if_neg (by omega), if_neg (by omega)]
              rfl
    · skip
      refine AW.seq ?_
      refine AW.r hT ?_
      refine AW.c (fun h => ?_) (fun h => ?_)
      · skip
        refine AW.skip ?_
        refine AW.c (fun h => ?_) (fun h => ?_)
        · skip
          refine AW.seq ?_
          refine AW.r hT ?_
          refine AW.ret ?_
          simp only [go_sem, simprocAttr]
          rw [lopen_eq v, if_neg (by omega), if_pos (by omega)]
          rfl
        · skip
          refine AW.seq ?_
          refine AW.r hT ?_
          refine AW.c (fun h => ?_) (fun h => ?_)
          · skip
            have hk := kn6 (.inl h)
            rw [hk] at h4
            obtain ⟨a1, a2, a3⟩ := lopens_ok (d - 1) v.kids h9 0 (by omega)
            have ag := dtots_get v.kids 0 (by omega)
            have al := rsum_len (lopen (v.kids.getD 0 default))
            have hn6 := h7 h
            refine AW.seq ?_
            refine AW.draw hT 7 (by decide) ?_
            simp only [go_sem, simprocAttr]
            refine DL.u ?_
            refine DL.c (c_impl_openRows (v.kids.getD 0 default) (d - 1) (by omega) (diss_get h9 (by omega)) (by have := dtots_get v.kids 0 (by omega); omega)) ?_
            simp only [go_sem, simprocAttr]
            refine DL.e ?_
            refine AL.c (c_impl_nestRows v.n (by omega) (by omega) (lopen (v.kids.getD 0 default)) a1 (by omega) (a3.le (by omega))) ?_
            rintro r rfl
            refine AL.e hT ?_
            refine AW.ret ?_
            simp only [go_sem, simprocAttr]
            rw [lopen_eq v, if_neg (by omega), if_neg (by omega), if_pos h, lopens_get v.kids 0 (by omega)]
          · skip
            refine AW.seq ?_
            refine AW.r hT ?_
            refine AW.c (fun h => ?_) (fun h => ?_)
            · skip
              have hk := kn7 h
              rw [hk] at h4
              obtain ⟨a1, a2, a3⟩ := lopens_ok (d - 1) v.kids h9 0 (by omega)
              obtain ⟨b1, b2, b3⟩ := lopens_ok (d - 1) v.kids h9 1 (by omega)
              have ag := dtots_two v.kids (by omega)
              have agp := dtot_pos (v.kids.getD 0 default)
              have agq := dtot_pos (v.kids.getD 1 default)
              refine AW.seq ?_
              refine AW.draw hT 9 (by decide) ?_
              simp only [go_sem, simprocAttr]
              refine DL.u ?_
              refine DL.c (c_impl_openRows (v.kids.getD 0 default) (d - 1) (by omega) (diss_get h9 (by omega)) (by have := dtots_get v.kids 0 (by omega); omega)) ?_
              simp only [go_sem, simprocAttr]
              refine DL.e ?_
              refine AL.c (c_impl_openRows (v.kids.getD 1 default) (d - 1) (by omega) (diss_get h9 (by omega)) (by have := dtots_get v.kids 1 (by omega); omega)) ?_
              rintro r rfl
              refine AL.c (c_impl_catRows (lopen (v.kids.getD 0 default)) (lopen (v.kids.getD 1 default)) a1 b1 (by omega) (by omega)) ?_
              rintro r rfl
              refine AL.e hT ?_
              refine AW.ret ?_
              simp only [go_sem, simprocAttr]
              rw [lopen_eq v, if_neg (by omega), if_neg (by omega), if_neg (by omega), if_pos h, lopens_get v.kids 0 (by omega), lopens_get v.kids 1 (by omega)]
            · skip
              refine AW.seq ?_
              refine AW.r hT ?_
              refine AW.c (fun h => ?_) (fun h => ?_)
              · skip
                have hk := kn6 (.inr h)
                rw [hk] at h4
                refine AW.seq ?_
                refine AW.region ?_
                refine AL.u hT ?_
                refine AL.c (c_impl_openRows (v.kids.getD 0 default) (d - 1) (by omega) (diss_get h9 (by omega)) (by have := dtots_get v.kids 0 (by omega); omega)) ?_
                rintro r rfl
                refine AL.e hT ?_
                refine AW.ret ?_
                simp only [go_sem, simprocAttr]
                rw [lopen_eq v, if_neg (by omega), if_neg (by omega), if_neg (by omega), if_neg (by omega), if_pos h, lopens_get v.kids 0 (by omega)]
              · skip
                refine AW.skip ?_
                refine AW.seq ?_
                refine AW.r hT ?_
                refine AW.ret ?_
                simp only [go_sem, simprocAttr]
                rw [lopen_eq v, if_neg (by omega), if_neg (by omega), if_neg (by omega), if_neg (by omega), if_neg (by omega)]
                rfl
      · skip
        refine AW.r hT ?_
        refine AW.c (fun h => ?_) (fun h => ?_)
        · skip
          refine AW.seq ?_
          refine AW.r hT ?_
          refine AW.ret ?_
          simp only [go_sem, simprocAttr]
          rw [lopen_eq v, if_neg (by omega), if_pos (by omega)]
          rfl
        · skip
          refine AW.seq ?_
          refine AW.r hT ?_
          refine AW.c (fun h => ?_) (fun h => ?_)
          · skip
            have hk := kn6 (.inl h)
            rw [hk] at h4
            obtain ⟨a1, a2, a3⟩ := lopens_ok (d - 1) v.kids h9 0 (by omega)
            have ag := dtots_get v.kids 0 (by omega)
            have al := rsum_len (lopen (v.kids.getD 0 default))
            have hn6 := h7 h
            refine AW.seq ?_
            refine AW.draw hT 7 (by decide) ?_
            simp only [go_sem, simprocAttr]
            refine DL.u ?_
            refine DL.c (c_impl_openRows (v.kids.getD 0 default) (d - 1) (by omega) (diss_get h9 (by omega)) (by have := dtots_get v.kids 0 (by omega); omega)) ?_
            simp only [go_sem, simprocAttr]
            refine DL.e ?_
            refine AL.c (c_impl_nestRows v.n (by omega) (by omega) (lopen (v.kids.getD 0 default)) a1 (by omega) (a3.le (by omega))) ?_
            rintro r rfl
            refine AL.e hT ?_
            refine AW.ret ?_
            simp only [go_sem, simprocAttr]
            rw [lopen_eq v, if_neg (by omega), if_neg (by omega), if_pos h, lopens_get v.kids 0 (by omega)]
          · skip
            refine AW.seq ?_
            refine AW.r hT ?_
            refine AW.c (fun h => ?_) (fun h => ?_)
            · skip
              have hk := kn7 h
              rw [hk] at h4
              obtain ⟨a1, a2, a3⟩ := lopens_ok (d - 1) v.kids h9 0 (by omega)
              obtain ⟨b1, b2, b3⟩ := lopens_ok (d - 1) v.kids h9 1 (by omega)
              have ag := dtots_two v.kids (by omega)
              have agp := dtot_pos (v.kids.getD 0 default)
              have agq := dtot_pos (v.kids.getD 1 default)
              refine AW.seq ?_
              refine AW.draw hT 9 (by decide) ?_
              simp only [go_sem, simprocAttr]
              refine DL.u ?_
              refine DL.c (c_impl_openRows (v.kids.getD 0 default) (d - 1) (by omega) (diss_get h9 (by omega)) (by have := dtots_get v.kids 0 (by omega); omega)) ?_
              simp only [go_sem, simprocAttr]
              refine DL.e ?_
              refine AL.c (c_impl_openRows (v.kids.getD 1 default) (d - 1) (by omega) (diss_get h9 (by omega)) (by have := dtots_get v.kids 1 (by omega); omega)) ?_
              rintro r rfl
              refine AL.c (c_impl_catRows (lopen (v.kids.getD 0 default)) (lopen (v.kids.getD 1 default)) a1 b1 (by omega) (by omega)) ?_
              rintro r rfl
              refine AL.e hT ?_
              refine AW.ret ?_
              simp only [go_sem, simprocAttr]
              rw [lopen_eq v, if_neg (by omega), if_neg (by omega), if_neg (by omega), if_pos h, lopens_get v.kids 0 (by omega), lopens_get v.kids 1 (by omega)]
            · skip
              refine AW.seq ?_
              refine AW.r hT ?_
              refine AW.c (fun h => ?_) (fun h => ?_)
              · skip
                have hk := kn6 (.inr h)
                rw [hk] at h4
                refine AW.seq ?_
                refine AW.region ?_
                refine AL.u hT ?_
                refine AL.c (c_impl_openRows (v.kids.getD 0 default) (d - 1) (by omega) (diss_get h9 (by omega)) (by have := dtots_get v.kids 0 (by omega); omega)) ?_
                rintro r rfl
                refine AL.e hT ?_
                refine AW.ret ?_
                simp only [go_sem, simprocAttr]
                rw [lopen_eq v, if_neg (by omega), if_neg (by omega), if_neg (by omega), if_neg (by omega), if_pos h, lopens_get v.kids 0 (by omega)]
              · skip
                refine AW.skip ?_
                refine AW.seq ?_
                refine AW.r hT ?_
                refine AW.ret ?_
                simp only [go_sem, simprocAttr]
                rw [lopen_eq v, if_neg (by omega), if_neg (by omega), if_neg (by omega), if_neg (by omega), if_neg (by omega)]
                rfl
termination_by SizeOf.sizeOf v
decreasing_by all_goals exact Doc.kid_lt v _ (by omega)

end Go.Proofs.Ytkcienioaodnbaa

