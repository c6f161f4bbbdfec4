import Derived.Test.YtkcienioaodnbaaD1
import Derived.Test.YtkcienioaodnbaaShelf
namespace Go.Proofs.Ytkcienioaodnbaa
open Go.Proofs.YtkcienioaodnbaaAw Go.RowKit
set_option linter.unusedVariables false
set_option linter.unusedSimpArgs false
set_option maxRecDepth 20000
set_option maxHeartbeats 2000000
attribute [local go_sem] runL stepL runQ stepQ isStop AV.closed AV.closedL clo guardB isCall objOp pureOp ops opo opv cellsOf leafB putT constAV fitC loadA cut storeA storeR splice fieldA indexA lenA slOf slOfD binA binI binS binB binG unA pickA convA nilCheckA extractA sliceA sliceD natA toP sliceStr indexStr szB buildSliceA partsA inOrder freezeL freeze1 freezeV freezeVs appendA makeA minA buildA fieldsA verOf dtAt Ob.ver Ob.dt Dt.isSl Dt.len Dt.sz Dt.el Dt.snoc Dt.app Dt.app2 Dt.sub Dt.withEl Dt.zeros mkDoc mkVal mkRow mkRows mkStr mkInt mkByte mkBool mkPiece mkItem asDocs asVals asStrs asInts asRows Doc.cells Val.cells Row.cells Piece.cells Item.cells Doc.eta Val.eta calleeA callArgs calleeO opoL Le LeL LeO LeB LeV AV.under AV.underL Dt.docs.injEq Dt.vals.injEq Dt.rows.injEq Dt.rowss.injEq Dt.strs.injEq Dt.ints.injEq Dt.bytes.injEq Dt.bools.injEq Dt.pieces.injEq Dt.items.injEq eq_self retK retOK resA oneV thenQ blockQ loopQ cutQ retQ retOQ T1 ti1 T2 ti2 T3 ti3 T4 ti4 T5 ti5 T6 ti6 T7 ti7 T8 ti8 T9 ti9 T10 ti10 T11 ti11 T12 ti12 T13 ti13 T14 ti14 T15 ti15 T16 ti16 T17 ti17 T18 ti18 T19 ti19 T21 ti21 T22 ti22 T23 ti23 T24 ti24 T26 ti26 T27 ti27 T28 ti28 T29 ti29 T30 ti30 T31 ti31 T32 ti32 T33 ti33 T34 ti34 T35 ti35 T36 ti36 T37 ti37 T38 ti38 T39 ti39 T40 ti40 T41 ti41 T42 ti42 T44 ti44 T45 ti45 T46 ti46 T47 ti47 T48 ti48 T49 ti49 T50 ti50 T51 ti51 T52 ti52 T53 ti53 T54 ti54 T55 ti55 T56 ti56 T57 ti57 T58 ti58 T59 ti59 T60 ti60 T61 ti61 T62 ti62 T63 ti63 T64 ti64 T65 ti65 T66 ti66 T67 ti67 T68 ti68 T69 ti69 T70 ti70 T71 ti71 T72 ti72 T73 ti73 T74 ti74 T75 ti75 T76 ti76 T77 ti77 T78 ti78 T79 ti79 T80 ti80 T81 ti81 T82 ti82 T83 ti83 T84 ti84 T85 ti85 T86 ti86 T87 ti87 T88 ti88 T89 ti89 T90 ti90 T91 ti91 T92 ti92 T93 ti93 T94 ti94 T95 ti95 T96 ti96 T97 ti97 T98 ti98 T99 ti99 T100 ti100 T101 ti101 T102 ti102 T103 ti103 T104 ti104 T105 ti105 T106 ti106 T107 ti107 T108 ti108 T109 ti109 T110 ti110 T111 ti111 T112 ti112 T113 ti113 T114 ti114 T115 ti115 T116 ti116 T118 ti118 T119 ti119 T121 ti121 T122 ti122 T123 ti123 T124 ti124 T125 ti125 T126 ti126 T127 ti127 T131 ti131 T132 ti132 T133 ti133 T134 ti134 T135 ti135 T136 ti136 T137 ti137 T138 ti138 T139 ti139 T140 ti140 T120 ti120
attribute [local go_sem] runV AV.avoid AV.avoidL toH toH1 frH frH1 idx backs imps bump conv handB pickO all_some all_none false_implies implies_true Bool.not_true Bool.not_false Bool.or_true Bool.true_or Bool.or_false Bool.false_or List.getD_cons_zero List.getD_cons_succ List.getD_nil List.set_cons_zero List.set_cons_succ List.length_cons List.length_nil List.nil_append List.cons_append List.append_nil List.all_cons List.all_nil List.map_cons List.map_nil Bool.and_self Bool.and_true Bool.true_and if_true if_false ite_true ite_false Option.bind_some Option.bind_none Option.map_some Option.map_none Option.getD_some Option.getD_none List.getElem?_cons_zero List.getElem?_cons_succ List.getElem?_nil List.drop_zero List.drop_succ_cons List.drop_nil List.take_succ_cons List.take_zero List.take_nil Bool.false_eq_true Bool.cond_true_left Bool.cond_false_right beq_self_eq_true decide_true decide_false and_true true_and and_self List.toList_toArray reduceCtorEq List.replicate startAS Int.toNat_natCast



/-! ### Texts, valid documents -/
theorem range_all_succ (p : Nat → Bool) (n : Nat) : (List.range (n + 1)).all p = ((List.range n).all p && p n) := by
  rw [List.range_succ, List.all_append]; simp
theorem range_all_false {p : Nat → Bool} {n i : Nat} (h : i < n) (hp : p i = false) : (List.range n).all p = false := by
  rw [List.all_eq_false]
  exact ⟨i, List.mem_range.2 h, by simp [hp]⟩
def lb (b : Int) : Bool := decide (b ≥ 97) && decide (b ≤ 122) || decide (b ≥ 48) && decide (b ≤ 57)
def sg (b : Int) : Bool := decide (b = 44) || decide (b = 58) || decide (b = 61) || decide (b = 123) || decide (b = 125) || decide (b = 40) || decide (b = 41) || decide (b = 91) || decide (b = 93)
def tb (b : Int) : Bool := lb b || sg b
def tok (s : ByteArray) : Bool := (List.range s.size).all (fun j => tb (bt s j)) && (decide (1 ≤ s.size) && decide (s.size ≤ 12))
theorem bt_range (s : ByteArray) (i : Int) : 0 ≤ bt s i ∧ bt s i < 256 := by
  unfold bt
  have := (s.data.toList.getD i.toNat 0).toNat_lt
  omega
def signs : ByteArray := ⟨#[44, 58, 61, 123, 125, 40, 41, 91, 93]⟩
theorem idx_sign (b : Int) (h0 : 0 ≤ b) (h1 : b < 256) : decide (Lib.indexByte signs.data.toList b.toNat.toUInt8 ≥ 0) = sg b := by
  obtain ⟨n, rfl⟩ := Int.eq_ofNat_of_zero_le h0
  have h : ∀ n : Nat, n < 256 → decide (Lib.indexByte signs.data.toList ((n : Int).toNat.toUInt8) ≥ 0) = sg (n : Int) := by decide +kernel
  exact h n (by omega)
theorem tok_false {s : ByteArray} {i : Nat} (h : i < s.size) (hp : tb (bt s i) = false) : tok s = false := by
  unfold tok; rw [range_all_false h hp]; rfl
theorem tok_end (s : ByteArray) (h : (List.range s.size).all (fun j => tb (bt s j)) = true) : (decide ((s.size : Int) ≥ 1) && decide ((s.size : Int) ≤ 12)) = tok s := by
  have e1 : decide ((s.size : Int) ≥ 1) = decide (1 ≤ s.size) := by rw [decide_eq_decide]; omega
  have e2 : decide ((s.size : Int) ≤ 12) = decide (s.size ≤ 12) := by rw [decide_eq_decide]; omega
  unfold tok; rw [h, e1, e2]; rfl
theorem c_strings_IndexByte (s : ByteArray) (b : Int) : PC Try.prog 105 [sv s, iv .u8 b] (fun r => r = iv .i64 (Lib.indexByte s.data.toList b.toNat.toUInt8)) :=
  PC.libQ (ls := [.string s, .int .u8 b]) (v := .int .i64 (Lib.indexByte s.data.toList b.toNat.toUInt8)) ⟨_, Try.func105, by decide, rfl⟩ rfl (fun _ _ _ _ _ => Rep.v _ rfl) (fun _ w => Try.strings_IndexByte s b w)
/-- How many parts a kind has. -/
def kn (op : Int) : Nat := if op = 6 ∨ op = 8 then 1 else if op = 7 then 2 else 0
mutual
def dis : Nat → Doc → Bool
  | d, ⟨op, k, s, cs⟩ =>
    if d = 0 ∨ op < 1 ∨ op > 8 ∨ cs.length ≠ kn op then false
    else if op = 2 ∧ tok s = false ∨ op ≠ 2 ∧ s ≠ ⟨#[]⟩ then false
    else if op = 6 ∧ (k < 0 ∨ k > 9) ∨ op ≠ 6 ∧ k ≠ 0 then false
    else diss (d - 1) cs
def diss : Nat → List Doc → Bool
  | _, [] => true
  | d, c :: cs => dis d c && diss d cs
end
theorem dis_eq (d : Nat) (v : Doc) : dis d v = if d = 0 ∨ v.op < 1 ∨ v.op > 8 ∨ v.kids.length ≠ kn v.op then false
    else if v.op = 2 ∧ tok v.text = false ∨ v.op ≠ 2 ∧ v.text ≠ ⟨#[]⟩ then false
    else if v.op = 6 ∧ (v.n < 0 ∨ v.n > 9) ∨ v.op ≠ 6 ∧ v.n ≠ 0 then false
    else diss (d - 1) v.kids := by cases v; simp only [dis]
theorem diss_append (d : Nat) (a b : List Doc) : diss d (a ++ b) = (diss d a && diss d b) := by
  induction a with
  | nil => simp [diss]
  | cons x a ih => simp only [List.cons_append, diss, ih, Bool.and_assoc]
theorem diss_succ (d : Nat) (xs : List Doc) (i : Nat) (h : i < xs.length) : diss d (xs.take (i + 1)) = (diss d (xs.take i) && dis d (xs.getD i default)) := by
  rw [take_snocD xs i default h, diss_append]; simp [diss]
theorem diss_false {d : Nat} : ∀ {xs : List Doc} {i : Nat}, i < xs.length → dis d (xs.getD i default) = false → diss d xs = false
  | [], i, h, _ => by simp at h
  | x :: xs, 0, _, hv => by simp at hv; simp [diss, hv]
  | x :: xs, i + 1, h, hv => by simp at hv h; simp [diss, diss_false h (by simpa using hv)]
mutual
def dcount : Doc → Int
  | ⟨_, _, _, kids⟩ => 1 + dcounts kids
def dcounts : List Doc → Int
  | [] => 0
  | v :: vs => dcount v + dcounts vs
end
theorem dcounts_append (a b : List Doc) : dcounts (a ++ b) = dcounts a + dcounts b := by
  induction a with
  | nil => simp [dcounts]
  | cons x a ih => simp only [List.cons_append, dcounts, ih]; omega
mutual
theorem dcount_pos : ∀ v : Doc, 1 ≤ dcount v
  | ⟨_, _, _, kids⟩ => by have := dcounts_nonneg kids; simp only [dcount]; omega
theorem dcounts_nonneg : ∀ vs : List Doc, 0 ≤ dcounts vs
  | [] => Int.le_refl _
  | v :: vs => by have := dcount_pos v; have := dcounts_nonneg vs; simp only [dcounts]; omega
end
theorem dcount_eq (v : Doc) : dcount v = 1 + dcounts v.kids := by cases v; rfl
def dmax : Nat → Int
  | 0 => 0
  | d + 1 => 1 + 2 * dmax d
theorem dmax_nonneg : ∀ d, 0 ≤ dmax d
  | 0 => Int.le_refl _
  | d + 1 => by have := dmax_nonneg d; simp only [dmax]; omega
theorem kn_le (op : Int) : kn op ≤ 2 := by unfold kn; split <;> (try split) <;> omega
mutual
theorem dis_count : ∀ (d : Nat) (v : Doc), dis d v = true → dcount v ≤ dmax d
  | 0, ⟨op, k, s, cs⟩, h => by simp [dis] at h
  | d + 1, ⟨op, k, s, cs⟩, h => by
      simp only [dis] at h
      split at h
      · cases h
      · rename_i h1
        split at h
        · cases h
        · split at h
          · cases h
          · have h2 := diss_count d cs h
            have h3 : cs.length ≤ 2 := by
              have := kn_le op
              have : cs.length = kn op := by
                rcases Nat.lt_trichotomy cs.length (kn op) with e | e | e
                · exact absurd (.inr (.inr (.inr (by omega)))) h1
                · exact e
                · exact absurd (.inr (.inr (.inr (by omega)))) h1
              omega
            have h4 := dmax_nonneg d
            have h5 : (cs.length : Int) * dmax d ≤ 2 * dmax d := Int.mul_le_mul_of_nonneg_right (by omega) h4
            simp only [dcount, dmax]; omega
theorem diss_count : ∀ (d : Nat) (vs : List Doc), diss d vs = true → dcounts vs ≤ vs.length * dmax d
  | d, [], _ => by simp [dcounts]
  | d, v :: vs, h => by
      simp only [diss, Bool.and_eq_true] at h
      have h1 := dis_count d v h.1
      have h2 := diss_count d vs h.2
      simp only [dcounts, List.length_cons]
      have : ((vs.length + 1 : Nat) : Int) * dmax d = vs.length * dmax d + dmax d := by rw [Int.natCast_add, Int.add_mul]; simp
      omega
end
mutual
def dok : Nat → Int → Doc → Bool × Int
  | d, n, ⟨op, k, s, cs⟩ =>
    if d = 0 ∨ n - 1 < 0 ∨ op < 1 ∨ op > 8 then (false, n - 1)
    else if cs.length ≠ kn op ∨ k < 0 ∨ k > 9 ∨ k > 0 ∧ op ≠ 6 then (false, n - 1)
    else if op = 2 ∧ tok s = false ∨ op ≠ 2 ∧ s ≠ ⟨#[]⟩ then (false, n - 1)
    else doks (d - 1) (n - 1) cs
def doks : Nat → Int → List Doc → Bool × Int
  | _, n, [] => (true, n)
  | d, n, c :: cs => if (dok d n c).1 = true then doks d (dok d n c).2 cs else (false, (dok d n c).2)
end
theorem dok_eq (d : Nat) (n : Int) (v : Doc) : dok d n v = if d = 0 ∨ n - 1 < 0 ∨ v.op < 1 ∨ v.op > 8 then (false, n - 1)
    else if v.kids.length ≠ kn v.op ∨ v.n < 0 ∨ v.n > 9 ∨ v.n > 0 ∧ v.op ≠ 6 then (false, n - 1)
    else if v.op = 2 ∧ tok v.text = false ∨ v.op ≠ 2 ∧ v.text ≠ ⟨#[]⟩ then (false, n - 1)
    else doks (d - 1) (n - 1) v.kids := by cases v; simp only [dok]
theorem doks_succ (d : Nat) (n : Int) (xs : List Doc) (i : Nat) (h : i < xs.length) (hp : (doks d n (xs.take i)).1 = true) :
    doks d n (xs.take (i + 1)) = ((dok d (doks d n (xs.take i)).2 (xs.getD i default)).1, (dok d (doks d n (xs.take i)).2 (xs.getD i default)).2) := by
  induction xs generalizing i n with
  | nil => simp at h
  | cons x xs ih =>
    cases i with
    | zero =>
      simp only [List.take_succ_cons, List.take_zero, doks, List.getD_cons_zero]
      split
      · rename_i e; rw [e]
      · rename_i e; rw [Bool.not_eq_true] at e; rw [e]
    | succ i =>
      simp only [List.take_succ_cons, doks, List.getD_cons_succ] at hp ⊢
      split at hp
      · rename_i e
        rw [if_pos e, if_pos e]
        exact ih _ i (by simpa using h) hp
      · simp at hp
theorem doks_stop (d : Nat) (n : Int) (xs : List Doc) (i : Nat) (h : i < xs.length) (hp : (doks d n (xs.take (i + 1))).1 = false) : doks d n xs = (false, (doks d n (xs.take (i + 1))).2) := by
  induction xs generalizing i n with
  | nil => simp at h
  | cons x xs ih =>
    simp only [List.take_succ_cons, doks] at hp ⊢
    split
    · rename_i e
      rw [if_pos e] at hp
      cases i with
      | zero => simp [doks] at hp
      | succ i => exact ih _ i (by simpa using h) hp
    · rename_i e
      simp
mutual
theorem dok_dis : ∀ (d : Nat) (n : Int) (v : Doc), 0 ≤ n → (dok d n v).1 = (dis d v && decide (dcount v ≤ n)) ∧ ((dok d n v).1 = true → (dok d n v).2 = n - dcount v)
  | d, n, ⟨op, k, s, cs⟩, hn => by
      have hp := dcounts_nonneg cs
      have ih := fun h => doks_dis (d - 1) (n - 1) cs h
      have hm : dcount ⟨op, k, s, cs⟩ = 1 + dcounts cs := rfl
      generalize dcount ⟨op, k, s, cs⟩ = m at hm ⊢
      simp only [dok, dis]
      by_cases h0 : d = 0 ∨ n - 1 < 0 ∨ op < 1 ∨ op > 8
      · rw [if_pos h0]
        refine ⟨?_, fun h => by cases h⟩
        by_cases hn1 : n - 1 < 0
        · rw [decide_eq_false (show ¬ m ≤ n by omega), Bool.and_false]
        · rw [if_pos (by omega)]; rfl
      · rw [if_neg h0]
        simp only [not_or] at h0
        obtain ⟨a1, a2, a3, a4⟩ := h0
        obtain ⟨i1, i2⟩ := ih (by omega)
        by_cases hc : cs.length = kn op
        · have e2 : ¬ (d = 0 ∨ op < 1 ∨ op > 8 ∨ cs.length ≠ kn op) := by omega
          rw [if_neg e2]
          by_cases hk : k < 0 ∨ k > 9 ∨ k > 0 ∧ op ≠ 6
          · have e3 : op = 6 ∧ (k < 0 ∨ k > 9) ∨ op ≠ 6 ∧ k ≠ 0 := by omega
            rw [if_pos (.inr hk)]
            refine ⟨?_, fun h => by cases h⟩
            by_cases ht : op = 2 ∧ tok s = false ∨ op ≠ 2 ∧ s ≠ ⟨#[]⟩
            · rw [if_pos ht]; rfl
            · rw [if_neg ht, if_pos e3]; rfl
          · have e1 : ¬ (cs.length ≠ kn op ∨ k < 0 ∨ k > 9 ∨ k > 0 ∧ op ≠ 6) := by omega
            have e3 : ¬ (op = 6 ∧ (k < 0 ∨ k > 9) ∨ op ≠ 6 ∧ k ≠ 0) := by omega
            rw [if_neg e1]
            by_cases ht : op = 2 ∧ tok s = false ∨ op ≠ 2 ∧ s ≠ ⟨#[]⟩
            · rw [if_pos ht, if_pos ht]; exact ⟨rfl, fun h => by cases h⟩
            · rw [if_neg ht, if_neg ht, if_neg e3, i1, show decide (m ≤ n) = decide (dcounts cs ≤ n - 1) from decide_eq_decide.2 (by omega)]
              exact ⟨rfl, fun h => by rw [i2 (by rw [i1]; exact h)]; omega⟩
        · rw [if_pos (.inl hc), if_pos (.inr (.inr (.inr hc)))]
          exact ⟨rfl, fun h => by cases h⟩
theorem doks_dis : ∀ (d : Nat) (n : Int) (vs : List Doc), 0 ≤ n → (doks d n vs).1 = (diss d vs && decide (dcounts vs ≤ n)) ∧ ((doks d n vs).1 = true → (doks d n vs).2 = n - dcounts vs)
  | d, n, [], hn => by simp [doks, diss, dcounts, hn]
  | d, n, v :: vs, hn => by
      obtain ⟨h1, h2⟩ := dok_dis d n v hn
      have hc := dcount_pos v
      have hcs := dcounts_nonneg vs
      have hm : dcounts (v :: vs) = dcount v + dcounts vs := rfl
      generalize dcounts (v :: vs) = m at hm ⊢
      simp only [doks, diss]
      cases hv : (dok d n v).1 with
      | false =>
        rw [hv] at h1
        rw [if_neg (by simp)]
        refine ⟨?_, fun h => by cases h⟩
        cases hq : dis d v with
        | false => rfl
        | true =>
          rw [hq] at h1
          have : ¬ dcount v ≤ n := by simpa using h1.symm
          show false = (true && diss d vs && decide (m ≤ n))
          rw [decide_eq_false (show ¬ m ≤ n by omega)]; simp
      | true =>
        rw [if_pos rfl]
        have e2 := h2 hv
        rw [hv] at h1
        have h3 := h1.symm
        simp only [Bool.and_eq_true, decide_eq_true_eq] at h3
        obtain ⟨i1, i2⟩ := doks_dis d (dok d n v).2 vs (by omega)
        refine ⟨?_, fun h => by rw [i2 h, e2]; omega⟩
        rw [i1, h3.1, e2, Bool.true_and, show decide (dcounts vs ≤ n - dcount v) = decide (m ≤ n) from decide_eq_decide.2 (by omega)]
end
/-- A valid document. -/
def dvalid (v : Doc) : Bool := dis 40 v && decide (dcount v ≤ 80)

theorem c_impl_TextValid (s : ByteArray) : PC Try.prog 58 [sv s] (fun r => r = bv (tok s)) := by
  refine PC.intro hT Try.func58 rfl (by decide) ?_
  intro F hF
  simp only [startAS, Try.f58, go_sem]
  refine AW.know fun hfit => ?_
  have hlen : s.size ≤ maxLen := hfit.1
  unfold maxLen at hlen
  clear hfit
  refine AW.seq ?_
  refine AW.r hT ?_
  refine AW.seq ?_
  refine AW.seq ?_
  refine AW.r hT ?_
  refine AW.block ?_
  refine AW.loop (ι := Nat) (fun i => i ≤ s.size ∧ (List.range i).all (fun j => tb (bt s j)) = true) (fun i => ⟨[sv s] ++ List.replicate 2 .dead ++ [iv .i64 i] ++ List.replicate 44 .dead, []⟩) (fun i => s.size - i) 0 ⟨Nat.zero_le _, rfl⟩ (fun _ => by rw [hF]; first | exact Nat.zero_le _ | simp) ?_ ?_
  · simp only [go_sem, simprocAttr]
    all_goals (rfl)
  · intro i hi
    have hi1 := hi.1
    refine AW.seq ?_
    refine AW.seq ?_
    refine AW.r hT ?_
    refine AW.c (fun h => ?_) (fun h => ?_)
    · skip
      have hlt : i < s.size := by omega
      have hbr := bt_range s i
      refine AW.skip ?_
      refine AW.seq ?_
      refine AW.block ?_
      refine AW.seq ?_
      refine AW.region ?_
      refine AL.u hT ?_
      refine AL.cF hT (fun hG => c_strings_IndexByte signs (bt s i)) ?_
      simp only [go_sem, simprocAttr]
      refine AL.e hT ?_
      refine AW.cond rfl (fun h => ?_) (fun h => ?_)
      · skip
        have hb : tb (bt s i) = false := by
          unfold tb lb
          rw [← idx_sign _ hbr.1 hbr.2]
          exact (Bool.not_eq_true' _).mp h
        refine AW.seq ?_
        refine AW.r hT ?_
        refine AW.ret ?_
        simp only [go_sem, simprocAttr]
        rw [tok_false hlt hb]
      · skip
        have hb : tb (bt s i) = true := by
          unfold tb lb
          rw [← idx_sign _ hbr.1 hbr.2]
          exact (Bool.not_eq_false' _).mp h
        refine AW.skip ?_
        refine AW.r hT ?_
        refine ⟨i + 1, ⟨by omega, by rw [range_all_succ, hi.2, hb]; rfl⟩, (by show _ - (i + 1) < _ - i; omega), ?_⟩
        simp only [go_sem, simprocAttr]
        rw [wrapId (by omega) (by omega)]
        omega
    · skip
      have hi2 : i = s.size := by omega
      refine AW.exit ?_
      simp only [go_sem, simprocAttr]
      refine AW.seq ?_
      refine AW.r hT ?_
      refine AW.ret ?_
      simp only [go_sem, simprocAttr]
      subst hi2
      rw [tok_end s hi.2]
theorem c_spec_TextValid (s : ByteArray) : PC Try.prog 54 [sv s] (fun r => r = bv (tok s)) := by
  refine PC.intro hT Try.func54 rfl (by decide) ?_
  intro F hF
  simp only [startAS, Try.f54, go_sem]
  refine AW.know fun hfit => ?_
  have hlen : s.size ≤ maxLen := hfit.1
  unfold maxLen at hlen
  clear hfit
  refine AW.seq ?_
  refine AW.r hT ?_
  refine AW.seq ?_
  refine AW.seq ?_
  refine AW.r hT ?_
  refine AW.c (fun h => ?_) (fun h => ?_)
  · skip
    refine AW.seq ?_
    refine AW.r hT ?_
    refine AW.ret ?_
    simp only [go_sem, simprocAttr]
    have ht : tok s = false := by
      unfold tok
      rcases h with h | h
      · rw [decide_eq_false (show ¬ 1 ≤ s.size by omega)]; simp
      · rw [decide_eq_false (show ¬ s.size ≤ 12 by omega)]; simp
    rw [ht]
  · skip
    have hs1 := h
    refine AW.skip ?_
    refine AW.seq ?_
    refine AW.seq ?_
    refine AW.r hT ?_
    refine AW.block ?_
    refine AW.loop (ι := Nat) (fun i => i ≤ s.size ∧ (List.range i).all (fun j => tb (bt s j)) = true) (fun i => ⟨[sv s] ++ List.replicate 2 .dead ++ [iv .i64 i] ++ List.replicate 74 .dead, []⟩) (fun i => s.size - i) 0 ⟨Nat.zero_le _, rfl⟩ (fun _ => by rw [hF]; first | exact Nat.zero_le _ | simp) ?_ ?_
    · simp only [go_sem, simprocAttr]
      all_goals (rfl)
    · intro i hi
      have hi1 := hi.1
      refine AW.seq ?_
      refine AW.seq ?_
      refine AW.r hT ?_
      refine AW.c (fun h => ?_) (fun h => ?_)
      · skip
        have hlt : i < s.size := by omega
        refine AW.skip ?_
        refine AW.seq ?_
        refine AW.block ?_
        refine AW.seq ?_
        refine AW.r hT ?_
        refine AW.seq ?_
        refine AW.r hT ?_
        refine AW.seq ?_
        refine AW.r hT ?_
        refine AW.seq ?_
        refine AW.r hT ?_
        refine AW.cond rfl (fun h => ?_) (fun h => ?_)
        · skip
          have hb : tb (bt s i) = false := by
            unfold tb lb sg
            rw [← Bool.not_or] at h
            exact (Bool.not_eq_true' _).mp h
          refine AW.seq ?_
          refine AW.r hT ?_
          refine AW.ret ?_
          simp only [go_sem, simprocAttr]
          rw [tok_false hlt hb]
        · skip
          have hb : tb (bt s i) = true := by
            unfold tb lb sg
            rw [← Bool.not_or] at h
            exact (Bool.not_eq_false' _).mp h
          refine AW.skip ?_
          refine AW.r hT ?_
          refine ⟨i + 1, ⟨by omega, by rw [range_all_succ, hi.2, hb]; rfl⟩, (by show _ - (i + 1) < _ - i; omega), ?_⟩
          simp only [go_sem, simprocAttr]
          rw [wrapId (by omega) (by omega)]
          omega
      · skip
        have hi2 : i = s.size := by omega
        refine AW.exit ?_
        simp only [go_sem, simprocAttr]
        refine AW.seq ?_
        refine AW.r hT ?_
        refine AW.ret ?_
        simp only [go_sem, simprocAttr]
        subst hi2
        rw [show tok s = true from by rw [← tok_end s hi.2, decide_eq_true (by omega), decide_eq_true (by omega)]; rfl]
end Go.Proofs.Ytkcienioaodnbaa

