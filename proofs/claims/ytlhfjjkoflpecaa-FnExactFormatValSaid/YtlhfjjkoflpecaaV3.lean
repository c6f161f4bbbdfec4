import Derived.Test.YtlhfjjkoflpecaaV2
import Derived.Test.YtlhfjjkoflpecaaShelf
namespace Go.Proofs.Ytlhfjjkoflpecaa
open Go.Proofs.YtlhfjjkoflpecaaAw Go.RowKit
set_option linter.unusedVariables false
set_option linter.unusedSimpArgs false
set_option maxRecDepth 20000
set_option maxHeartbeats 2000000
attribute [local go_sem] runL stepL runQ stepQ isStop AV.closed AV.closedL clo guardB isCall objOp pureOp ops opo opv cellsOf leafB putT constAV fitC loadA cut storeA storeR splice fieldA indexA lenA slOf slOfD binA binI binS binB binG unA pickA convA nilCheckA extractA sliceA sliceD natA toP sliceStr indexStr szB buildSliceA partsA inOrder freezeL freeze1 freezeV freezeVs appendA makeA minA buildA fieldsA verOf dtAt Ob.ver Ob.dt Dt.isSl Dt.len Dt.sz Dt.el Dt.snoc Dt.app Dt.app2 Dt.sub Dt.withEl Dt.zeros mkDoc mkVal mkRow mkRows mkStr mkInt mkByte mkBool mkPiece mkItem asDocs asVals asStrs asInts asRows Doc.cells Val.cells Row.cells Piece.cells Item.cells Doc.eta Val.eta calleeA callArgs calleeO opoL Le LeL LeO LeB LeV AV.under AV.underL Dt.docs.injEq Dt.vals.injEq Dt.rows.injEq Dt.rowss.injEq Dt.strs.injEq Dt.ints.injEq Dt.bytes.injEq Dt.bools.injEq Dt.pieces.injEq Dt.items.injEq eq_self retK retOK resA oneV thenQ blockQ loopQ cutQ retQ retOQ T1 ti1 T2 ti2 T3 ti3 T4 ti4 T5 ti5 T6 ti6 T7 ti7 T8 ti8 T9 ti9 T10 ti10 T11 ti11 T12 ti12 T13 ti13 T14 ti14 T15 ti15 T16 ti16 T17 ti17 T18 ti18 T19 ti19 T21 ti21 T22 ti22 T23 ti23 T24 ti24 T25 ti25 T26 ti26 T27 ti27 T28 ti28 T29 ti29 T30 ti30 T31 ti31 T32 ti32 T33 ti33 T34 ti34 T35 ti35 T36 ti36 T37 ti37 T39 ti39 T40 ti40 T41 ti41 T42 ti42 T43 ti43 T44 ti44 T45 ti45 T46 ti46 T47 ti47 T48 ti48 T49 ti49 T50 ti50 T51 ti51 T52 ti52 T53 ti53 T54 ti54 T55 ti55 T56 ti56 T57 ti57 T58 ti58 T59 ti59 T60 ti60 T61 ti61 T62 ti62 T63 ti63 T64 ti64 T65 ti65 T66 ti66 T67 ti67 T68 ti68 T70 ti70 T71 ti71 T72 ti72 T73 ti73 T74 ti74 T75 ti75 T76 ti76 T77 ti77 T78 ti78 T79 ti79 T83 ti83 T84 ti84 T85 ti85 T86 ti86 T87 ti87 T88 ti88 T90 ti90 T91 ti91 T92 ti92 T93 ti93 T97 ti97 T98 ti98 T99 ti99 T100 ti100 T101 ti101 T102 ti102 T103 ti103 T104 ti104 T105 ti105 T106 ti106 T107 ti107
attribute [local go_sem] runV AV.avoid AV.avoidL toH toH1 frH frH1 idx backs imps bump conv handB pickO all_some all_none false_implies implies_true Bool.not_true Bool.not_false Bool.or_true Bool.true_or Bool.or_false Bool.false_or List.getD_cons_zero List.getD_cons_succ List.getD_nil List.set_cons_zero List.set_cons_succ List.length_cons List.length_nil List.nil_append List.cons_append List.append_nil List.all_cons List.all_nil List.map_cons List.map_nil Bool.and_self Bool.and_true Bool.true_and if_true if_false ite_true ite_false Option.bind_some Option.bind_none Option.map_some Option.map_none Option.getD_some Option.getD_none List.getElem?_cons_zero List.getElem?_cons_succ List.getElem?_nil List.drop_zero List.drop_succ_cons List.drop_nil List.take_succ_cons List.take_zero List.take_nil Bool.false_eq_true Bool.cond_true_left Bool.cond_false_right beq_self_eq_true decide_true decide_false and_true true_and and_self List.toList_toArray reduceCtorEq List.replicate startAS Int.toNat_natCast



/-! ### Texts of values -/
def fout (k : Int) (ks ts : List ByteArray) : Nat → ByteArray
  | 0 => ⟨#[]⟩
  | n + 1 => (if k = 3 then (if 0 < n then fout k ks ts n ++ ⟨#[44, 32]⟩ else fout k ks ts n) ++ ks.getD n ⟨#[]⟩ ++ ⟨#[61]⟩ else (if 0 < n then fout k ks ts n ++ ⟨#[44, 32]⟩ else fout k ks ts n)) ++ ts.getD n ⟨#[]⟩
mutual
def ftext : Val → ByteArray
  | ⟨k, w, ks, cs⟩ => if k = 1 then w else if k = 3 then ⟨#[123]⟩ ++ fout k ks (ftexts cs) cs.length ++ ⟨#[125]⟩ else ⟨#[91]⟩ ++ fout k ks (ftexts cs) cs.length ++ ⟨#[93]⟩
def ftexts : List Val → List ByteArray
  | [] => []
  | v :: vs => ftext v :: ftexts vs
end
theorem ftext_eq (v : Val) : ftext v = if v.kind = 1 then v.word else if v.kind = 3 then ⟨#[123]⟩ ++ fout v.kind v.keys (ftexts v.kids) v.kids.length ++ ⟨#[125]⟩ else ⟨#[91]⟩ ++ fout v.kind v.keys (ftexts v.kids) v.kids.length ++ ⟨#[93]⟩ := by cases v; simp only [ftext]
theorem ftexts_get : ∀ (ds : List Val) (i : Nat), i < ds.length → (ftexts ds).getD i ⟨#[]⟩ = ftext (ds.getD i default)
  | [], i, h => by simp at h
  | d :: ds, 0, _ => by simp [ftexts]
  | d :: ds, i + 1, h => by simp only [ftexts, List.getD_cons_succ]; exact ftexts_get ds i (by simpa using h)
def fpart (k : Int) (ks ts : List ByteArray) (n : Nat) : ByteArray := if k = 3 then ks.getD n ⟨#[]⟩ ++ ⟨#[61]⟩ ++ ts.getD n ⟨#[]⟩ else ts.getD n ⟨#[]⟩
def fparts (k : Int) (ks ts : List ByteArray) (n : Nat) : List ByteArray := (List.range n).map (fpart k ks ts)
theorem fparts_len (k : Int) (ks ts : List ByteArray) (n : Nat) : (fparts k ks ts n).length = n := by simp [fparts]
theorem fparts_succ (k : Int) (ks ts : List ByteArray) (n : Nat) : fparts k ks ts (n + 1) = fparts k ks ts n ++ [fpart k ks ts n] := by simp [fparts, List.range_succ]
theorem inter_snoc {α : Type} (sep x : List α) : ∀ xs : List (List α), sep.intercalate (xs ++ [x]) = if xs = [] then x else sep.intercalate xs ++ sep ++ x
  | [] => by simp [List.intercalate]
  | [a] => by simp [List.intercalate, List.intersperse]
  | a :: b :: r => by
      have h := inter_snoc sep x (b :: r)
      simp only [List.cons_append, List.intercalate, List.intersperse, List.flatten_cons, reduceCtorEq, if_false] at h ⊢
      rw [h]; simp only [List.append_assoc]
theorem fout_join (k : Int) (ks ts : List ByteArray) : ∀ n : Nat, Lib.join ((fparts k ks ts n).map (·.data.toList)) [44, 32] = (fout k ks ts n).data.toList
  | 0 => by simp [fparts, fout, Lib.join, List.intercalate]
  | n + 1 => by
      have h := fout_join k ks ts n
      unfold Lib.join at h ⊢
      rw [fparts_succ, List.map_append, List.map_singleton, inter_snoc, h]
      by_cases e : n = 0
      · subst e
        by_cases hk : k = 3 <;> simp [fparts, fout, fpart, hk]
      · have e1 : ¬ List.map (fun x : ByteArray => x.data.toList) (fparts k ks ts n) = [] := by
          intro h1; have := congrArg List.length h1; simp [fparts_len] at this; exact e this
        rw [if_neg e1]
        by_cases hk : k = 3 <;> simp [fout, fpart, hk, show 0 < n by omega]
def fmax : Nat → Nat
  | 0 => 0
  | d + 1 => 8 * (fmax d + 11) + 10
theorem fmax_le (d : Nat) (h : d ≤ 4) : fmax d ≤ 100000 := by
  have : ∀ d, d < 5 → fmax d ≤ 100000 := by decide
  exact this d (by omega)
theorem viss_get {d : Nat} {xs : List Val} (h : viss d xs = true) (i : Nat) (hi : i < xs.length) : vis d (xs.getD i default) = true := by
  cases hv : vis d (xs.getD i default) with
  | true => rfl
  | false => rw [viss_false hi hv] at h; cases h
theorem kok_get {ks : List ByteArray} (h : kok ks = true) (i : Nat) (hi : i < ks.length) : (ks.getD i ⟨#[]⟩).size ≤ 8 := by
  unfold kok at h
  have := List.all_eq_true.1 h i (List.mem_range.2 hi)
  unfold kkey wok at this
  simp only [Bool.and_eq_true, decide_eq_true_eq] at this
  exact this.1.2.2
theorem fout_size (k : Int) (ks ts : List ByteArray) (K M : Nat) (n : Nat) (hk : k = 3 → ∀ i, i < n → (ks.getD i ⟨#[]⟩).size ≤ K) (hm : ∀ i, i < n → (ts.getD i ⟨#[]⟩).size ≤ M) : (fout k ks ts n).size ≤ n * (M + K + 3) := by
  induction n with
  | zero => simp [fout]; rfl
  | succ n ih =>
    have h1 := ih (fun e i hi => hk e i (by omega)) (fun i hi => hm i (by omega))
    have h2 := hm n (by omega)
    rw [Nat.add_mul, Nat.one_mul]
    unfold fout
    by_cases e : k = 3
    · have h3 := hk e n (by omega)
      by_cases e2 : 0 < n <;> simp only [e, if_true, e2, if_false, ByteArray.size_append] <;> (subst e; show _ ≤ _; first | (change _ + 2 + _ + 1 + _ ≤ _; omega) | (change _ + _ + 1 + _ ≤ _; omega))
    · by_cases e2 : 0 < n <;> simp only [e, e2, if_true, if_false, ByteArray.size_append] <;> first | (change _ + 2 + _ ≤ _; omega) | omega
/-- What a valid value's parts are. -/
theorem vis_parts {d : Nat} {v : Val} (h : vis d v = true) : d ≠ 0 ∧ (v.kind = 1 → wok v.word = true) ∧ (v.kind = 3 → v.keys.length = v.kids.length ∧ kok v.keys = true) ∧ (v.kind ≠ 1 → viss (d - 1) v.kids = true ∧ v.kids.length ≤ 8) := by
  rw [vis_eq] at h
  by_cases h0 : d = 0
  · rw [if_pos h0] at h; cases h
  rw [if_neg h0] at h
  by_cases h1 : v.kind = 1
  · rw [if_pos h1] at h
    simp only [Bool.and_eq_true, decide_eq_true_eq] at h
    exact ⟨h0, fun _ => h.1, fun e => by omega, fun e => absurd h1 e⟩
  rw [if_neg h1] at h
  by_cases h2 : v.kind = 2
  · rw [if_pos h2] at h
    simp only [Bool.and_eq_true, decide_eq_true_eq] at h
    exact ⟨h0, fun e => absurd e h1, fun e => by omega, fun _ => h.2.2⟩
  rw [if_neg h2] at h
  by_cases h3 : v.kind = 3
  · rw [if_pos h3] at h
    simp only [Bool.and_eq_true, decide_eq_true_eq] at h
    exact ⟨h0, fun e => absurd e h1, fun _ => ⟨h.2.1, h.2.2.1⟩, fun _ => h.2.2.2⟩
  · rw [if_neg h3] at h; cases h
theorem vis_out {d : Nat} {v : Val} (hv : vis d v = true) (hk : v.kind ≠ 1) (M : Nat) (hM : ∀ i, i < v.kids.length → (ftext (v.kids.getD i default)).size ≤ M) (i : Nat) (hi : i ≤ v.kids.length) : (fout v.kind v.keys (ftexts v.kids) i).size ≤ i * (M + 11) := by
  obtain ⟨h0, h1, h3, h4⟩ := vis_parts hv
  exact fout_size v.kind v.keys (ftexts v.kids) 8 M i (fun e j hj => kok_get (h3 e).2 j (by have := (h3 e).1; omega)) (fun j hj => by rw [ftexts_get v.kids j (by omega)]; exact hM j (by omega))
theorem vis_text : ∀ (d : Nat) (v : Val), vis d v = true → (ftext v).size ≤ fmax d := by
  intro d
  induction d with
  | zero => intro v h; exact absurd rfl (vis_parts h).1
  | succ d ih =>
    intro v h
    obtain ⟨h0, h1, h3, h4⟩ := vis_parts h
    rw [ftext_eq]
    by_cases e1 : v.kind = 1
    · rw [if_pos e1]
      have := h1 e1
      unfold wok at this
      simp only [Bool.and_eq_true, decide_eq_true_eq] at this
      have := this.2.2
      unfold fmax; omega
    · obtain ⟨h5, h6⟩ := h4 e1
      have hs := vis_out h e1 (fmax d) (fun i hi => ih _ (viss_get h5 i hi)) v.kids.length (Nat.le_refl _)
      have hmul : v.kids.length * (fmax d + 11) ≤ 8 * (fmax d + 11) := Nat.mul_le_mul_right _ h6
      rw [if_neg e1]
      unfold fmax
      split <;> simp only [ByteArray.size_append] <;> (change 1 + _ + 1 ≤ _; omega)

theorem c_strings_Join (xs : List ByteArray) (s : ByteArray) (hN : xs.length ≤ 1000000000) (h : (Lib.join (xs.map (·.data.toList)) s.data.toList).length ≤ 1000000000) : PC Try.prog 57 [.d (.strs xs), sv s] (fun r => r = sv ⟨(Lib.join (xs.map (·.data.toList)) s.data.toList).toArray⟩) := by
  refine ⟨⟨_, Try.func57, by decide, rfl⟩, fun S0 w0 V vs hst ha => ?_⟩
  obtain ⟨v, r, rfl, h1, v2, r2, rfl, h2, rfl⟩ := ha
  have e2 := Rep.scalar h2
  subst e2
  obtain ⟨hm, A, c, rfl, hc, hcell⟩ := Rep.slice rfl h1
  have hfit : fitV (.string ⟨(Lib.join (xs.map (·.data.toList)) s.data.toList).toArray⟩) = true := by
    show decide (_ ≤ maxLen) = true
    refine decide_eq_true ?_
    show ((Lib.join (xs.map (·.data.toList)) s.data.toList).toArray).size ≤ maxLen
    rw [List.size_toArray]; unfold maxLen; omega
  by_cases h0 : 0 < xs.length
  · obtain ⟨b, o, rfl, hcells⟩ := hcell h0
    have hcell' : ∀ (j : Nat) x, xs[j]? = some x → w0.cell? ⟨b, o + j, none⟩ = some (.string x) ∧ S0 b (o + j) := by
      intro j x hx
      have hj : j < xs.length := (List.getElem?_eq_some_iff.1 hx).1
      obtain ⟨u, p1, p2, p3⟩ := hcells j 0 (.v (.string (xs.getD j ⟨#[]⟩))) hj rfl
      have e : xs.getD j ⟨#[]⟩ = x := by rw [List.getD_eq_getElem?_getD, hx]; rfl
      rw [e] at p3
      have := Rep.scalar p3
      subst this
      have e3 : o + (j * (Dt.strs xs).sz + 0) = o + j := by simp [Dt.sz]
      rw [e3] at p1 p2
      exact ⟨p1, p2⟩
    have hb : b < w0.heap.size := hst.sheap b (o + 0) (hcell' 0 (xs[0]) (by simp [h0])).2
    refine Calls.mono (Try.strings_Join b o c xs s w0 (fun j x hx => (hcell' j x hx).1) hb (by omega) hc (by omega)) fun e w' hh => ?_
    obtain ⟨rfl, hb⟩ := hh
    exact ⟨_, S0, V, [], _, rfl, ⟨rfl, rfl⟩, hst.grow hb, Rep.v _ hfit, fun o g ho => absurd ho (Nat.not_lt_zero _)⟩
  · have hx : xs = [] := List.eq_nil_of_length_eq_zero (by omega)
    subst hx
    refine Calls.mono (Try.strings_Join_none A c s w0) fun e w' hh => ?_
    obtain ⟨rfl, rfl⟩ := hh
    exact ⟨_, S0, V, [], _, rfl, ⟨rfl, rfl⟩, hst.grow (Below.rfl' _), Rep.v _ hfit, fun o g ho => absurd ho (Nat.not_lt_zero _)⟩
theorem sz1 (a : UInt8) : (⟨#[a]⟩ : ByteArray).size = 1 := rfl
theorem sz2 (a b : UInt8) : (⟨#[a, b]⟩ : ByteArray).size = 2 := rfl
attribute [local go_sem] ByteArray.size_append sz1 sz2
theorem c_spec_l10Text (d : Nat) (hd : d ≤ 4) (v : Val) (hv : vis d v = true) : PC Try.prog 41 [.agg (v.cells.map .d)] (fun r => r = sv (ftext v)) := by
  have hmx : 1000000000 ≤ maxLen := by unfold maxLen; omega
  have hF := fmax_le d hd
  have hvt := vis_text d v hv
  obtain ⟨hp0, hp1, hp3, hp4⟩ := vis_parts hv
  have hF1 := fmax_le (d - 1) (by omega)
  have hkid : v.kind ≠ 1 → ∀ i, i < v.kids.length → vis (d - 1) (v.kids.getD i default) = true := fun e => viss_get (hp4 e).1
  have hout : v.kind ≠ 1 → ∀ i, i ≤ v.kids.length → (fout v.kind v.keys (ftexts v.kids) i).size ≤ 1000000 := fun e i hi => by
    have h1 := vis_out hv e 100000 (fun j hj => by have := vis_text (d - 1) _ (hkid e j hj); omega) i hi
    have h2 := (hp4 e).2
    have h3 : i * (100000 + 11) ≤ 8 * (100000 + 11) := Nat.mul_le_mul_right _ (by omega)
    omega
  refine PC.intro hT Try.func41 rfl (by decide) ?_
  intro F hF
  simp only [startAS, Try.f41, go_sem]
  refine AW.seq ?_
  refine AW.r hT ?_
  refine AW.seq ?_
  refine AW.seq ?_
  refine AW.r hT ?_
  refine AW.c (fun h => ?_) (fun h => ?_)
  · skip
    refine AW.seq ?_
    refine AW.r hT ?_
    refine AW.ret ?_
    simp only [go_sem, simprocAttr]
    rw [ftext_eq, if_pos h]
  · skip
    have hk1 : v.kind ≠ 1 := h
    have hlen := (hp4 hk1).2
    refine AW.skip ?_
    refine AW.seq ?_
    refine AW.r hT ?_
    refine AW.seq ?_
    refine AW.seq ?_
    refine AW.r hT ?_
    refine AW.block ?_
    refine AW.loop (ι := Nat) (fun i => i ≤ v.kids.length) (fun i => ⟨List.replicate 1 .dead ++ [.ptr 0 0] ++ List.replicate 1 .dead ++ [sv (fout v.kind v.keys (ftexts v.kids) i), iv .i64 i] ++ List.replicate 44 .dead, [.box 30 (v.cells.map .d)]⟩) (fun i => v.kids.length - i) 0 (Nat.zero_le _) (fun _ => by rw [hF]; first | exact Nat.zero_le _ | simp) ?_ ?_
    · simp only [go_sem, simprocAttr]
      all_goals (rfl)
    · intro i hi
      have ho := hout hk1 i hi
      clear hout
      refine AW.seq ?_
      refine AW.seq ?_
      refine AW.r hT ?_
      refine AW.c (fun h => ?_) (fun h => ?_)
      · skip
        have hlt : i < v.kids.length := by omega
        have hkt := vis_text (d - 1) _ (hkid hk1 i hlt)
        have hgt := ftexts_get v.kids i hlt
        refine AW.skip ?_
        refine AW.seq ?_
        refine AW.block ?_
        refine AW.seq ?_
        refine AW.seq ?_
        refine AW.r hT ?_
        refine AW.c (fun h => ?_) (fun h => ?_)
        · skip
          have h7 : 0 < i := by omega
          refine AW.r hT ?_
          refine AW.seq ?_
          refine AW.seq ?_
          refine AW.r hT ?_
          refine AW.c (fun h => ?_) (fun h => ?_)
          · skip
            have hk3 : v.kind = 3 := h
            obtain ⟨hl3, hkok⟩ := hp3 hk3
            have hks := kok_get hkok i (by omega)
            refine AW.r hT ?_
            refine AW.region ?_
            refine AL.u hT ?_
            refine AL.c (c_spec_l10Text (d - 1) (by omega) (v.kids.getD i default) (hkid hk1 i hlt)) ?_
            rintro r rfl
            refine AL.e hT ?_
            refine AW.r hT ?_
            refine ⟨i + 1, by omega, (by show _ - (i + 1) < _ - i; omega), ?_⟩
            simp only [go_sem, simprocAttr]
            refine ⟨?_, by rw [wrapId (by omega) (by omega)]; omega⟩
            rw [fout, hgt]
            simp only [h, h7, if_true, if_false]
          · skip
            refine AW.skip ?_
            refine AW.region ?_
            refine AL.u hT ?_
            refine AL.c (c_spec_l10Text (d - 1) (by omega) (v.kids.getD i default) (hkid hk1 i hlt)) ?_
            rintro r rfl
            refine AL.e hT ?_
            refine AW.r hT ?_
            refine ⟨i + 1, by omega, (by show _ - (i + 1) < _ - i; omega), ?_⟩
            simp only [go_sem, simprocAttr]
            refine ⟨?_, by rw [wrapId (by omega) (by omega)]; omega⟩
            rw [fout, hgt]
            simp only [h, h7, if_true, if_false]
        · skip
          have h7 : ¬ 0 < i := by omega
          refine AW.skip ?_
          refine AW.seq ?_
          refine AW.seq ?_
          refine AW.r hT ?_
          refine AW.c (fun h => ?_) (fun h => ?_)
          · skip
            have hk3 : v.kind = 3 := h
            obtain ⟨hl3, hkok⟩ := hp3 hk3
            have hks := kok_get hkok i (by omega)
            refine AW.r hT ?_
            refine AW.region ?_
            refine AL.u hT ?_
            refine AL.c (c_spec_l10Text (d - 1) (by omega) (v.kids.getD i default) (hkid hk1 i hlt)) ?_
            rintro r rfl
            refine AL.e hT ?_
            refine AW.r hT ?_
            refine ⟨i + 1, by omega, (by show _ - (i + 1) < _ - i; omega), ?_⟩
            simp only [go_sem, simprocAttr]
            refine ⟨?_, by rw [wrapId (by omega) (by omega)]; omega⟩
            rw [fout, hgt]
            simp only [h, h7, if_true, if_false]
          · skip
            refine AW.skip ?_
            refine AW.region ?_
            refine AL.u hT ?_
            refine AL.c (c_spec_l10Text (d - 1) (by omega) (v.kids.getD i default) (hkid hk1 i hlt)) ?_
            rintro r rfl
            refine AL.e hT ?_
            refine AW.r hT ?_
            refine ⟨i + 1, by omega, (by show _ - (i + 1) < _ - i; omega), ?_⟩
            simp only [go_sem, simprocAttr]
            refine ⟨?_, by rw [wrapId (by omega) (by omega)]; omega⟩
            rw [fout, hgt]
            simp only [h, h7, if_true, if_false]
      · skip
        have hie : i = v.kids.length := by omega
        subst hie
        refine AW.exit ?_
        simp only [go_sem, simprocAttr]
        refine AW.seq ?_
        refine AW.seq ?_
        refine AW.r hT ?_
        refine AW.c (fun h => ?_) (fun h => ?_)
        · skip
          refine AW.seq ?_
          refine AW.r hT ?_
          refine AW.ret ?_
          simp only [go_sem, simprocAttr]
          rw [ftext_eq, if_neg hk1, if_pos h]
        · skip
          refine AW.skip ?_
          refine AW.seq ?_
          refine AW.r hT ?_
          refine AW.ret ?_
          simp only [go_sem, simprocAttr]
          rw [ftext_eq, if_neg hk1, if_neg h]
termination_by SizeOf.sizeOf v
decreasing_by all_goals exact Val.kid_lt v i hlt

def lft (k : Int) : ByteArray := if k = 3 then ⟨#[123]⟩ else ⟨#[91]⟩
def rgt (k : Int) : ByteArray := if k = 3 then ⟨#[125]⟩ else ⟨#[93]⟩
theorem lft_size (k : Int) : (lft k).size = 1 := by unfold lft; split <;> rfl
theorem rgt_size (k : Int) : (rgt k).size = 1 := by unfold rgt; split <;> rfl
attribute [local go_sem] lft_size rgt_size
theorem c_join_parts (k : Int) (ks ts : List ByteArray) (n : Nat) (hn : n ≤ 1000000) (h : (fout k ks ts n).size ≤ 1000000) : PC Try.prog 57 [.d (.strs (fparts k ks ts n)), sv ⟨#[44, 32]⟩] (fun r => r = sv (fout k ks ts n)) := by
  have e : Lib.join ((fparts k ks ts n).map (·.data.toList)) (⟨#[44, 32]⟩ : ByteArray).data.toList = (fout k ks ts n).data.toList := fout_join k ks ts n
  have hl : (fout k ks ts n).data.toList.length = (fout k ks ts n).size := rfl
  have := c_strings_Join (fparts k ks ts n) ⟨#[44, 32]⟩ (by rw [fparts_len]; omega) (by rw [e, hl]; omega)
  rw [e] at this
  exact this
def fmtV (v : Val) : ByteArray := if (vis 4 v && decide (vcount v ≤ 12)) = true then ftext v else ⟨#[]⟩
theorem c_impl_brackets (v : Val) : PC Try.prog 56 [.agg (v.cells.map .d)] (fun r => r = .tup [sv (lft v.kind), sv (rgt v.kind)]) := by
  refine PC.intro hT Try.func56 rfl (by decide) ?_
  intro F hF
  simp only [startAS, Try.f56, go_sem]
  refine AW.seq ?_
  refine AW.r hT ?_
  refine AW.seq ?_
  refine AW.seq ?_
  refine AW.r hT ?_
  refine AW.c (fun h => ?_) (fun h => ?_)
  · skip
    refine AW.seq ?_
    refine AW.r hT ?_
    refine AW.ret ?_
    simp only [go_sem, simprocAttr]
    unfold lft rgt
    rw [if_pos h, if_pos h]
  · skip
    refine AW.skip ?_
    refine AW.seq ?_
    refine AW.r hT ?_
    refine AW.ret ?_
    simp only [go_sem, simprocAttr]
    unfold lft rgt
    rw [if_neg h, if_neg h]
theorem c_impl_formatVal (d : Nat) (hd : d ≤ 4) (v : Val) (hv : vis d v = true) : PC Try.prog 40 [.agg (v.cells.map .d)] (fun r => r = sv (ftext v)) := by
  have hmx : 1000000000 ≤ maxLen := by unfold maxLen; omega
  have hF := fmax_le d hd
  have hvt := vis_text d v hv
  obtain ⟨hp0, hp1, hp3, hp4⟩ := vis_parts hv
  have hF1 := fmax_le (d - 1) (by omega)
  have hkid : v.kind ≠ 1 → ∀ i, i < v.kids.length → vis (d - 1) (v.kids.getD i default) = true := fun e => viss_get (hp4 e).1
  have hout : v.kind ≠ 1 → ∀ i, i ≤ v.kids.length → (fout v.kind v.keys (ftexts v.kids) i).size ≤ 1000000 := fun e i hi => by
    have h1 := vis_out hv e 100000 (fun j hj => by have := vis_text (d - 1) _ (hkid e j hj); omega) i hi
    have h2 := (hp4 e).2
    have h3 : i * (100000 + 11) ≤ 8 * (100000 + 11) := Nat.mul_le_mul_right _ (by omega)
    omega
  refine PC.intro hT Try.func40 rfl (by decide) ?_
  intro F hF
  simp only [startAS, Try.f40, go_sem]
  refine AW.seq ?_
  refine AW.r hT ?_
  refine AW.seq ?_
  refine AW.seq ?_
  refine AW.r hT ?_
  refine AW.c (fun h => ?_) (fun h => ?_)
  · skip
    refine AW.seq ?_
    refine AW.r hT ?_
    refine AW.ret ?_
    simp only [go_sem, simprocAttr]
    rw [ftext_eq, if_pos h]
  · skip
    have hk1 : v.kind ≠ 1 := h
    have hlen := (hp4 hk1).2
    refine AW.skip ?_
    refine AW.seq ?_
    refine AW.r hT ?_
    refine AW.seq ?_
    refine AW.seq ?_
    refine AW.r hT ?_
    refine AW.block ?_
    refine AW.loop (ι := Nat) (fun i => i ≤ v.kids.length) (fun i => ⟨List.replicate 1 .dead ++ [.ptr 0 0] ++ List.replicate 1 .dead ++ [.row 1 i] ++ List.replicate 12 .dead ++ [.d (.vals v.kids), iv .i64 v.kids.length, iv .i64 i] ++ List.replicate 33 .dead, [.box 30 (v.cells.map .d), .row 9 (.strs (fparts v.kind v.keys (ftexts v.kids) i)) i]⟩) (fun i => v.kids.length - i) 0 (Nat.zero_le _) (fun _ => by rw [hF]; first | exact Nat.zero_le _ | simp) ?_ ?_
    · simp only [go_sem, simprocAttr]
      all_goals (rfl)
    · intro i hi
      have ho := hout hk1 i hi
      clear hout
      have hfl := fparts_len v.kind v.keys (ftexts v.kids) i
      refine AW.seq ?_
      refine AW.r hT ?_
      refine AW.seq ?_
      refine AW.c (fun h => ?_) (fun h => ?_)
      · skip
        have hlt : i < v.kids.length := by omega
        have hkt := vis_text (d - 1) _ (hkid hk1 i hlt)
        have hgt := ftexts_get v.kids i hlt
        refine AW.skip ?_
        refine AW.seq ?_
        refine AW.block ?_
        refine AW.seq ?_
        refine AW.r hT ?_
        refine AW.seq ?_
        refine AW.region ?_
        refine AL.u hT ?_
        refine AL.c (c_impl_formatVal (d - 1) (by omega) (v.kids.getD i default) (hkid hk1 i hlt)) ?_
        rintro r rfl
        refine AL.e hT ?_
        refine AW.seq ?_
        refine AW.seq ?_
        refine AW.r hT ?_
        refine AW.c (fun h => ?_) (fun h => ?_)
        · skip
          have hk3 : v.kind = 3 := h
          obtain ⟨hl3, hkok⟩ := hp3 hk3
          have hks := kok_get hkok i (by omega)
          refine AW.r hT ?_
          refine AW.r hT ?_
          refine AW.r hT ?_
          refine ⟨i + 1, by omega, (by show _ - (i + 1) < _ - i; omega), ?_⟩
          simp only [go_sem, simprocAttr]
          refine ⟨by rw [wrapId (by omega) (by omega)]; omega, ?_⟩
          rw [fparts_succ, fpart, hgt]
          simp only [h, if_true, if_false]
        · skip
          refine AW.skip ?_
          refine AW.r hT ?_
          refine AW.r hT ?_
          refine ⟨i + 1, by omega, (by show _ - (i + 1) < _ - i; omega), ?_⟩
          simp only [go_sem, simprocAttr]
          refine ⟨by rw [wrapId (by omega) (by omega)]; omega, ?_⟩
          rw [fparts_succ, fpart, hgt]
          simp only [h, if_true, if_false]
      · skip
        have hie : i = v.kids.length := by omega
        subst hie
        refine AW.exit ?_
        simp only [go_sem, simprocAttr]
        refine AW.seq ?_
        refine AW.region ?_
        refine AL.u hT ?_
        refine AL.c (c_impl_brackets v) ?_
        rintro r rfl
        refine AL.e hT ?_
        refine AW.seq ?_
        refine AW.region ?_
        refine AL.u hT ?_
        refine AL.c (c_join_parts v.kind v.keys (ftexts v.kids) v.kids.length (by omega) ho) ?_
        rintro r rfl
        refine AL.e hT ?_
        refine AW.ret ?_
        simp only [go_sem, simprocAttr]
        rw [ftext_eq, if_neg hk1]
        unfold lft rgt
        split <;> rfl
termination_by SizeOf.sizeOf v
decreasing_by all_goals exact Val.kid_lt v i hlt
theorem c_spec_FormatVal (v : Val) : PC Try.prog 21 [.agg (v.cells.map .d)] (fun r => r = sv (fmtV v)) := by
  refine PC.intro hT Try.func21 rfl (by decide) ?_
  intro F hF
  simp only [startAS, Try.f21, go_sem]
  refine AW.seq ?_
  refine AW.r hT ?_
  refine AW.seq ?_
  refine AW.seq ?_
  refine AW.region ?_
  refine AL.u hT ?_
  refine AL.c (c_spec_ValValid v) ?_
  rintro r rfl
  refine AL.e hT ?_
  refine AW.c (fun h => ?_) (fun h => ?_)
  · skip
    refine AW.seq ?_
    refine AW.r hT ?_
    refine AW.ret ?_
    simp only [go_sem, simprocAttr]
    unfold fmtV
    rw [if_neg (by simpa using h)]
  · skip
    have hv : vis 4 v = true ∧ vcount v ≤ 12 := by simpa using h
    refine AW.skip ?_
    refine AW.seq ?_
    refine AW.region ?_
    refine AL.u hT ?_
    refine AL.c (c_spec_l10Text 4 (by omega) v hv.1) ?_
    rintro r rfl
    refine AL.e hT ?_
    refine AW.ret ?_
    simp only [go_sem, simprocAttr]
    unfold fmtV
    rw [if_pos (by simpa using h)]
theorem c_impl_FormatVal (v : Val) : PC Try.prog 20 [.agg (v.cells.map .d)] (fun r => r = sv (fmtV v)) := by
  refine PC.intro hT Try.func20 rfl (by decide) ?_
  intro F hF
  simp only [startAS, Try.f20, go_sem]
  refine AW.seq ?_
  refine AW.r hT ?_
  refine AW.seq ?_
  refine AW.seq ?_
  refine AW.region ?_
  refine AL.u hT ?_
  refine AL.c (c_impl_ValValid v) ?_
  rintro r rfl
  refine AL.e hT ?_
  refine AW.c (fun h => ?_) (fun h => ?_)
  · skip
    refine AW.seq ?_
    refine AW.r hT ?_
    refine AW.ret ?_
    simp only [go_sem, simprocAttr]
    unfold fmtV
    rw [if_neg (by simpa using h)]
  · skip
    have hv : vis 4 v = true ∧ vcount v ≤ 12 := by simpa using h
    refine AW.skip ?_
    refine AW.seq ?_
    refine AW.region ?_
    refine AL.u hT ?_
    refine AL.c (c_impl_formatVal 4 (by omega) v hv.1) ?_
    rintro r rfl
    refine AL.e hT ?_
    refine AW.ret ?_
    simp only [go_sem, simprocAttr]
    unfold fmtV
    rw [if_pos (by simpa using h)]

end Go.Proofs.Ytlhfjjkoflpecaa

