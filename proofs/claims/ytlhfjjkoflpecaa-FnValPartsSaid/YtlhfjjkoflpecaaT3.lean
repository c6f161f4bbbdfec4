import Derived.Test.YtlhfjjkoflpecaaT2
namespace Go.Proofs.Ytlhfjjkoflpecaa
open Go.Proofs.YtlhfjjkoflpecaaAw Go.RowKit
set_option linter.unusedVariables false
set_option linter.unusedSimpArgs false
set_option maxRecDepth 20000
set_option maxHeartbeats 2000000
attribute [local go_sem] runL stepL runQ stepQ isStop AV.closed AV.closedL clo guardB isCall objOp pureOp ops opo opv cellsOf leafB putT constAV fitC loadA cut storeA storeR splice fieldA indexA lenA slOf slOfD binA binI binS binB binG unA pickA convA nilCheckA extractA sliceA sliceD natA toP sliceStr indexStr szB buildSliceA partsA inOrder freezeL freeze1 freezeV freezeVs appendA makeA minA buildA fieldsA verOf dtAt Ob.ver Ob.dt Dt.isSl Dt.len Dt.sz Dt.el Dt.snoc Dt.app Dt.app2 Dt.sub Dt.withEl Dt.zeros mkDoc mkVal mkRow mkRows mkStr mkInt mkByte mkBool mkPiece mkItem asDocs asVals asStrs asInts asRows Doc.cells Val.cells Row.cells Piece.cells Item.cells Doc.eta Val.eta calleeA callArgs calleeO opoL Le LeL LeO LeB LeV AV.under AV.underL Dt.docs.injEq Dt.vals.injEq Dt.rows.injEq Dt.rowss.injEq Dt.strs.injEq Dt.ints.injEq Dt.bytes.injEq Dt.bools.injEq Dt.pieces.injEq Dt.items.injEq eq_self retK retOK resA oneV thenQ blockQ loopQ cutQ retQ retOQ T1 ti1 T2 ti2 T3 ti3 T4 ti4 T5 ti5 T6 ti6 T7 ti7 T8 ti8 T9 ti9 T10 ti10 T11 ti11 T12 ti12 T13 ti13 T14 ti14 T15 ti15 T16 ti16 T17 ti17 T18 ti18 T19 ti19 T21 ti21 T22 ti22 T23 ti23 T24 ti24 T25 ti25 T26 ti26 T27 ti27 T28 ti28 T29 ti29 T30 ti30 T31 ti31 T32 ti32 T33 ti33 T34 ti34 T35 ti35 T36 ti36 T37 ti37 T39 ti39 T40 ti40 T41 ti41 T42 ti42 T43 ti43 T44 ti44 T45 ti45 T46 ti46 T47 ti47 T48 ti48 T49 ti49 T50 ti50 T51 ti51 T52 ti52 T53 ti53 T54 ti54 T55 ti55 T56 ti56 T57 ti57 T58 ti58 T59 ti59 T60 ti60 T61 ti61 T62 ti62 T63 ti63 T64 ti64 T65 ti65 T66 ti66 T67 ti67 T68 ti68 T70 ti70 T71 ti71 T72 ti72 T73 ti73 T74 ti74 T75 ti75 T76 ti76 T77 ti77 T78 ti78 T79 ti79 T83 ti83 T84 ti84 T85 ti85 T86 ti86 T87 ti87 T88 ti88 T90 ti90 T91 ti91 T92 ti92 T93 ti93 T97 ti97 T98 ti98 T99 ti99 T100 ti100 T101 ti101 T102 ti102 T103 ti103 T104 ti104 T105 ti105 T106 ti106 T107 ti107
attribute [local go_sem] toH toH1 frH frH1 idx backs imps bump conv handB pickO all_some all_none false_implies implies_true Bool.not_true Bool.not_false Bool.or_true Bool.true_or Bool.or_false Bool.false_or List.getD_cons_zero List.getD_cons_succ List.getD_nil List.set_cons_zero List.set_cons_succ List.length_cons List.length_nil List.nil_append List.cons_append List.append_nil List.all_cons List.all_nil List.map_cons List.map_nil Bool.and_self Bool.and_true Bool.true_and if_true if_false ite_true ite_false Option.bind_some Option.bind_none Option.map_some Option.map_none Option.getD_some Option.getD_none List.getElem?_cons_zero List.getElem?_cons_succ List.getElem?_nil List.drop_zero List.drop_succ_cons List.drop_nil List.take_succ_cons List.take_zero List.take_nil Bool.false_eq_true Bool.cond_true_left Bool.cond_false_right beq_self_eq_true decide_true decide_false and_true true_and and_self List.toList_toArray reduceCtorEq List.replicate startAS Int.toNat_natCast



theorem mul_step (i C : Int) : (i - 1) * C = i * C - C := by rw [Int.sub_mul]; omega
theorem mul_le3 (k C : Int) (h0 : 0 ≤ k) (h3 : k ≤ 3) (hC : 0 ≤ C) : k * C ≤ 3 * C := Int.mul_le_mul_of_nonneg_right h3 hC
theorem mul_ge1 (k C : Int) (h0 : 1 ≤ k) (hC : 0 ≤ C) : C ≤ k * C := by have := Int.mul_le_mul_of_nonneg_right h0 hC; omega
theorem ssz_snoc (xs : List ByteArray) (s : ByteArray) : ssz (xs ++ [s]) = ssz xs + 1 + s.size := by
  unfold ssz; rw [ssum_append, List.length_append]; simp [ssum]; omega
theorem vsum_snoc (xs : List Val) (v : Val) : vsum (xs ++ [v]) = vsum xs + vsz v := by rw [vsum_append]; simp [vsum]
theorem c_spec_l10Some_succ (bs : List Int) (hbs : ∀ b ∈ bs, 0 ≤ b ∧ b ≤ 255) (p : Int) (hp : 0 ≤ p) (d : Nat) (hd : d ≤ 99) (hp2 : p + sCost (d + 1) ≤ 1000000) (ih : ∀ p, 0 ≤ p → p + sCost d ≤ 1000000 → GC Try.prog 50 [.box 66 [.d (.bytes bs), iv .i64 p]] [.ptr 0 0, iv .i64 d] (fun os r => ∃ p' more, os = .box 66 [.d (.bytes bs), iv .i64 p'] :: more ∧ p ≤ p' ∧ p' ≤ p + sCost d ∧ (∃ v : Val, r = .agg (v.cells.map .d) ∧ vsz v ≤ sB d))) : GC Try.prog 50 [.box 66 [.d (.bytes bs), iv .i64 p]] [.ptr 0 0, iv .i64 ((d : Int) + 1)] (fun os r => ∃ p' more, os = .box 66 [.d (.bytes bs), iv .i64 p'] :: more ∧ p ≤ p' ∧ p' ≤ p + sCost (d + 1) ∧ (∃ v : Val, r = .agg (v.cells.map .d) ∧ vsz v ≤ sB (d + 1))) := by
  have hC := sCost_pos d
  have hB := sB_pos d
  have hCe : sCost (d + 1) = 3 + 3 * sCost d := rfl
  have hBe : sB (d + 1) = 18 + 3 * sB d := rfl
  refine GC.intro hT Try.func50 rfl (by decide) ?_
  intro F hF
  simp only [startAS, Try.f50, go_sem]
  have hd0 : decide ((d : Int) + 1 = 0) = false := decide_eq_false (by omega)
  refine AW.seq ?_
  refine AW.r hT ?_
  refine AW.seq ?_
  refine AW.seq ?_
  refine AW.region ?_
  refine AL.u hT ?_
  rw [hd0]
  simp only [go_sem, simprocAttr]
  refine AL.on ?_
  refine AL.cP (ob := 0) (c_spec_pick bs hbs p hp (by omega) 4 (by omega) (by omega)) ?_
  rintro os r ⟨p1, more, rfl, hp1a, hp1b, k1, rfl, k1a, k1b⟩
  refine ⟨_, more, rfl, rfl, rfl, ?_⟩
  simp only [go_sem, simprocAttr]
  refine AL.e hT ?_
  refine AW.c (fun h => ?_) (fun h => ?_)
  · skip
    refine AW.seq ?_
    refine AW.region ?_
    refine AL.u hT ?_
    refine AL.fz 16 ?_
    simp only [go_sem, simprocAttr]
    refine AL.cP (ob := 0) (c_spec_of bs hbs p1 (by omega) (by omega) w10 (by decide) (by decide)) ?_
    rintro os r ⟨p2, more, rfl, hp2a, hp2b, s, rfl, hs⟩
    refine ⟨_, more, rfl, rfl, rfl, ?_⟩
    simp only [go_sem, simprocAttr]
    refine AL.e hT ?_
    simp only [go_sem, simprocAttr]
    refine AW.wkB 1 [iv .i64 1, sv s, .d (.strs []), .d (.vals [])] ?_
    refine AW.ret ?_
    simp only [go_sem, simprocAttr]
    have hl := w10_le s hs
    exact ⟨_, _, rfl, by omega, by omega, ⟨1, s, [], []⟩, rfl, by simp only [vsz, ssz, ssum, vsum]; simp; omega⟩
  · skip
    refine AW.skip ?_
    refine AW.seq ?_
    refine AW.r hT ?_
    refine AW.cut (ι := Int × Int) (fun x => (x.1 = 2 ∨ x.1 = 3) ∧ p1 ≤ x.2 ∧ x.2 ≤ p1 + 1) (fun x => ⟨[.ptr 0 0, iv .i64 ((d : Int) + 1)] ++ List.replicate 2 .dead ++ [.ptr 1 0, .ptr 2 0] ++ List.replicate 47 .dead, [.box 66 [.d (.bytes bs), iv .i64 x.2], .box 30 [iv .i64 0, sv ⟨#[]⟩, .d (.v (.slice none 0 0)), .d (.v (.slice none 0 0))], .box 30 [iv .i64 x.1, sv ⟨#[]⟩, .d (.v (.slice none 0 0)), .d (.v (.slice none 0 0))]]⟩) (fun _ => by rw [hF]; first | exact Nat.zero_le _ | simp) ?_ ?_
    · refine AW.seq ?_
      refine AW.region ?_
      refine AL.u hT ?_
      refine AL.cP (ob := 0) (c_spec_pick bs hbs p1 (by omega) (by omega) 2 (by omega) (by omega)) ?_
      rintro os r ⟨p2, more, rfl, hp2a, hp2b, k2, rfl, k2a, k2b⟩
      refine ⟨_, more, rfl, rfl, rfl, ?_⟩
      simp only [go_sem, simprocAttr]
      refine AL.e hT ?_
      refine AW.c (fun h => ?_) (fun h => ?_)
      · skip
        refine AW.r hT ?_
        refine ⟨(3, p2), ⟨.inr rfl, hp2a, hp2b⟩, ?_⟩
        simp only [go_sem, simprocAttr]
      · skip
        refine AW.skip ?_
        refine ⟨(2, p2), ⟨.inl rfl, hp2a, hp2b⟩, ?_⟩
        simp only [go_sem, simprocAttr]
    · intro ⟨kd, p2⟩ ⟨hkd, hp2a, hp2b⟩
      dsimp only at hkd hp2a hp2b
      refine AW.seq ?_
      refine AW.r hT ?_
      refine AW.seq ?_
      refine AW.seq ?_
      refine AW.region ?_
      refine AL.u hT ?_
      refine AL.cP (ob := 0) (c_spec_pick bs hbs p2 (by omega) (by omega) 4 (by omega) (by omega)) ?_
      rintro os r ⟨p3, more, rfl, hp3a, hp3b, k3, rfl, k3a, k3b⟩
      refine ⟨_, more, rfl, rfl, rfl, ?_⟩
      simp only [go_sem, simprocAttr]
      refine AL.e hT ?_
      simp only [go_sem, simprocAttr]
      refine AW.own 2 3 30 (.vals []) ?_
      simp only [go_sem, simprocAttr]
      refine AW.own 2 2 9 (.strs []) ?_
      simp only [go_sem, simprocAttr]
      refine AW.block ?_
      refine AW.loop (ι := Int × Int × List Val × List ByteArray × Nat × Nat) (fun x => 0 ≤ x.1 ∧ x.1 ≤ 3 ∧ p ≤ x.2.1 ∧ x.2.1 + x.1 * sCost d ≤ p + 3 + 3 * sCost d ∧ (x.2.2.1.length : Int) + vsum x.2.2.1 + x.1 * (1 + sB d) ≤ 3 + 3 * sB d ∧ (x.2.2.1.length : Int) + x.1 ≤ 3 ∧ ssz x.2.2.2.1 + x.1 * 5 ≤ 15 ∧ (x.2.2.2.1.length : Int) + x.1 ≤ 3) (fun x => ⟨[.ptr 0 0, iv .i64 ((d : Int) + 1)] ++ List.replicate 2 .dead ++ [.ptr 1 0, .ptr 2 0, .row 3 0, iv .i64 x.1] ++ List.replicate 45 .dead, [.box 66 [.d (.bytes bs), iv .i64 x.2.1], .box 30 [iv .i64 0, sv ⟨#[]⟩, .d (.v (.slice none 0 0)), .d (.v (.slice none 0 0))], .box 30 [iv .i64 kd, sv ⟨#[]⟩, .row 5 x.2.2.2.2.2, .row 4 x.2.2.2.2.1], .row 9 (.strs k10) 0, .row 30 (.vals x.2.2.1) x.2.2.2.2.1, .row 9 (.strs x.2.2.2.1) x.2.2.2.2.2]⟩) (fun x => x.1.toNat) (k3, p3, [], [], 0, 0) (by have hz := k3b (by omega); have := mul_le3 k3 (sCost d) k3a (by omega) (by omega); have := mul_le3 k3 (1 + sB d) k3a (by omega) (by omega); exact ⟨k3a, by show k3 ≤ 3; omega, by show p ≤ p3; omega, by show p3 + k3 * sCost d ≤ _; omega, by simp [vsum]; omega, by simp; omega, by simp [ssz, ssum]; omega, by simp; omega⟩) (fun _ => by rw [hF]; first | exact Nat.zero_le _ | simp) ?_ ?_
      · simp only [go_sem, simprocAttr]
        all_goals (rfl)
      · intro ⟨i, q, vs, ks, a, b⟩ ⟨hi0, hi3, hq0, hq, hv, hl, hk, hkl⟩
        dsimp only at hi0 hi3 hq0 hq hv hl hk hkl
        refine AW.seq ?_
        refine AW.seq ?_
        refine AW.r hT ?_
        refine AW.c (fun h => ?_) (fun h => ?_)
        · skip
          have hqn : q ≤ 1000000 := by have := Int.mul_nonneg hi0 (show 0 ≤ sCost d by omega); omega
          have hmi := mul_ge1 i (sCost d) (by omega) (by omega)
          have hv0 := vsum_nonneg vs
          have hw4 : k10.length = 4 := rfl
          refine AW.skip ?_
          refine AW.seq ?_
          refine AW.block ?_
          refine AW.seq ?_
          refine AW.drawP hT 7 [0, 1, 2, 3, 4, 5, 6] [5] 0 (by decide) rfl ?_
          simp only [go_sem, simprocAttr]
          refine DPi.u ?_
          rw [show IntKind.i64.wrap ((d : Int) + 1 - 1) = (d : Int) by rw [wrapId (by omega) (by omega)]; omega]
          refine DPi.cP (ih q (by omega) (by omega)) ?_
          rintro os r ⟨q1, more, rfl, hq1a, hq1b, v, rfl, hvz⟩
          refine ⟨_, more, rfl, rfl, rfl, ?_⟩
          simp only [go_sem, simprocAttr]
          refine DPi.lit ?_
          simp only [go_sem, simprocAttr]
          show AL _ _ _ _ _ _
          try simp only [go_sem, simprocAttr]
          refine AL.e hT ?_
          refine AW.seq ?_
          refine AW.r hT ?_
          refine AW.c (fun h => ?_) (fun h => ?_)
          · skip
            refine AW.draw hT 7 (by decide) ?_
            simp only [go_sem, simprocAttr]
            refine DL.u ?_
            refine DL.lit rfl rfl rfl rfl rfl (by simp only [go_sem, simprocAttr]; rfl) ?_
            simp only [go_sem, simprocAttr]
            refine DL.e ?_
            refine AL.e hT ?_
            obtain ⟨ks1, hks1⟩ : ∃ x, x = ks ++ [k10.getD i.toNat ⟨#[]⟩] := ⟨_, rfl⟩
            obtain ⟨b1, hb1⟩ : ∃ x, x = b + 1 := ⟨_, rfl⟩
            have hk4 := k10_le _ (getD_mem k10 ⟨#[]⟩ i.toNat (by omega))
            have hk1 : ssz ks1 + (i - 1) * 5 ≤ 15 := by rw [hks1, ssz_snoc]; omega
            have hkl1 : (ks1.length : Int) + (i - 1) ≤ 3 := by rw [hks1, List.length_append, List.length_singleton]; omega
            refine AW.r hT ?_
            refine ⟨(i - 1, q1, vs ++ [v], ks1, a + 1, b1), (by have e1 := mul_step i (sCost d); have e2 := mul_step i (1 + sB d); have e3 := vsum_snoc vs v; exact ⟨by show 0 ≤ i - 1; omega, by show i - 1 ≤ 3; omega, by show p ≤ q1; omega, by show q1 + (i - 1) * sCost d ≤ _; omega, by simp only [List.length_append, List.length_singleton]; omega, by simp only [List.length_append, List.length_singleton]; omega, hk1, hkl1⟩), (by show (i - 1).toNat < i.toNat; omega), ?_⟩
            simp only [go_sem, simprocAttr]
            rw [wrapId (by omega) (by omega)]
            subst hks1; subst hb1
            simp
          · skip
            obtain ⟨ks1, hks1⟩ : ∃ x, x = ks := ⟨_, rfl⟩
            obtain ⟨b1, hb1⟩ : ∃ x, x = b := ⟨_, rfl⟩
            have hk1 : ssz ks1 + (i - 1) * 5 ≤ 15 := by rw [hks1]; omega
            have hkl1 : (ks1.length : Int) + (i - 1) ≤ 3 := by rw [hks1]; omega
            refine AW.skip ?_
            refine AW.r hT ?_
            refine ⟨(i - 1, q1, vs ++ [v], ks1, a + 1, b1), (by have e1 := mul_step i (sCost d); have e2 := mul_step i (1 + sB d); have e3 := vsum_snoc vs v; exact ⟨by show 0 ≤ i - 1; omega, by show i - 1 ≤ 3; omega, by show p ≤ q1; omega, by show q1 + (i - 1) * sCost d ≤ _; omega, by simp only [List.length_append, List.length_singleton]; omega, by simp only [List.length_append, List.length_singleton]; omega, hk1, hkl1⟩), (by show (i - 1).toNat < i.toNat; omega), ?_⟩
            simp only [go_sem, simprocAttr]
            rw [wrapId (by omega) (by omega)]
            subst hks1; subst hb1
            simp
        · skip
          refine AW.exit ?_
          simp only [go_sem, simprocAttr]
          refine AW.seq ?_
          refine AW.r hT ?_
          simp only [go_sem, simprocAttr]
          refine AW.fzB 1 ?_
          simp only [go_sem, simprocAttr]
          refine AW.ret ?_
          simp only [go_sem, simprocAttr]
          have hi00 : i = 0 := by omega
          subst hi00
          exact ⟨_, _, rfl, by omega, by omega, ⟨kd, ⟨#[]⟩, ks, vs⟩, rfl, by show ((0 : Nat) : Int) + ssz ks + (vs.length + vsum vs) ≤ _; omega⟩
theorem c_spec_l10Some (bs : List Int) (hbs : ∀ b ∈ bs, 0 ≤ b ∧ b ≤ 255) (p : Int) (hp : 0 ≤ p) (d : Nat) (hd : d ≤ 100) (hp2 : p + sCost d ≤ 1000000) : GC Try.prog 50 [.box 66 [.d (.bytes bs), iv .i64 p]] [.ptr 0 0, iv .i64 d] (fun os r => ∃ p' more, os = .box 66 [.d (.bytes bs), iv .i64 p'] :: more ∧ p ≤ p' ∧ p' ≤ p + sCost d ∧ (∃ v : Val, r = .agg (v.cells.map .d) ∧ vsz v ≤ sB d)) := by
  induction d generalizing p with
  | zero => exact c_spec_l10Some0 bs hbs p hp (by have := sCost_pos 0; omega)
  | succ d ih => exact c_spec_l10Some_succ bs hbs p hp d (by omega) hp2 (fun p hp hp2 => ih p hp (by omega) hp2)
theorem c_spec_l10SomeR0 (bs : List Int) (hbs : ∀ b ∈ bs, 0 ≤ b ∧ b ≤ 255) (p : Int) (hp : 0 ≤ p) (hp2 : p ≤ 1000000) : GC Try.prog 50 [.box 66 [.d (.bytes bs), iv .i64 p]] [.ptr 0 0, iv .i64 0] (fun os r => ∃ p' v a b o3, os = [.box 66 [.d (.bytes bs), iv .i64 p'], .row 9 (.strs (Val.keys v)) b, .row 30 (.vals (Val.kids v)) a, o3] ∧ p ≤ p' ∧ p' ≤ p + sCost 0 ∧ r = .agg [iv .i64 (Val.kind v), sv (Val.word v), .row 1 b, .row 2 a] ∧ vsz v ≤ sB 0) := by
  refine GC.intro hT Try.func50 rfl (by decide) ?_
  intro F hF
  simp only [startAS, Try.f50, go_sem]
  refine AW.seq ?_
  refine AW.r hT ?_
  refine AW.seq ?_
  refine AW.seq ?_
  refine AW.region ?_
  refine AL.u hT ?_
  refine AL.off (iv .i64 0) ?_
  simp only [go_sem, simprocAttr]
  refine AL.e hT ?_
  refine AW.c (fun h => ?_) (fun h => ?_)
  · skip
    refine AW.seq ?_
    refine AW.region ?_
    refine AL.u hT ?_
    refine AL.fz 16 ?_
    simp only [go_sem, simprocAttr]
    refine AL.cP (ob := 0) (c_spec_of bs hbs p hp (by omega) w10 (by decide) (by decide)) ?_
    rintro os r ⟨p1, more, rfl, hp1, hp3, s, rfl, hs⟩
    refine ⟨_, more, rfl, rfl, rfl, ?_⟩
    simp only [go_sem, simprocAttr]
    refine AL.e hT ?_
    simp only [go_sem, simprocAttr]
    refine AW.own 1 2 9 (.strs []) ?_
    simp only [go_sem, simprocAttr]
    refine AW.own 1 3 30 (.vals []) ?_
    simp only [go_sem, simprocAttr]
    refine AW.pick [0, 3, 4, 1] (by intro i hi; rw [hF] at hi; simp at hi; subst hi; rfl) ?_
    simp only [go_sem, simprocAttr]
    refine AW.ret ?_
    simp only [go_sem, simprocAttr]
    have hl := w10_le s hs
    exact ⟨_, ⟨1, s, [], []⟩, _, _, _, rfl, by omega, by simp only [sCost]; omega, rfl, by simp only [vsz, ssz, ssum, vsum, sB]; simp; omega⟩
  · skip
    exact absurd h (by simp)
theorem c_spec_l10SomeR_succ (bs : List Int) (hbs : ∀ b ∈ bs, 0 ≤ b ∧ b ≤ 255) (p : Int) (hp : 0 ≤ p) (d : Nat) (hd : d ≤ 99) (hp2 : p + sCost (d + 1) ≤ 1000000) (ih : ∀ p, 0 ≤ p → p + sCost d ≤ 1000000 → GC Try.prog 50 [.box 66 [.d (.bytes bs), iv .i64 p]] [.ptr 0 0, iv .i64 d] (fun os r => ∃ p' more, os = .box 66 [.d (.bytes bs), iv .i64 p'] :: more ∧ p ≤ p' ∧ p' ≤ p + sCost d ∧ (∃ v : Val, r = .agg (v.cells.map .d) ∧ vsz v ≤ sB d))) : GC Try.prog 50 [.box 66 [.d (.bytes bs), iv .i64 p]] [.ptr 0 0, iv .i64 ((d : Int) + 1)] (fun os r => ∃ p' v a b o3, os = [.box 66 [.d (.bytes bs), iv .i64 p'], .row 9 (.strs (Val.keys v)) b, .row 30 (.vals (Val.kids v)) a, o3] ∧ p ≤ p' ∧ p' ≤ p + sCost (d + 1) ∧ r = .agg [iv .i64 (Val.kind v), sv (Val.word v), .row 1 b, .row 2 a] ∧ vsz v ≤ sB (d + 1)) := by
  have hC := sCost_pos d
  have hB := sB_pos d
  have hCe : sCost (d + 1) = 3 + 3 * sCost d := rfl
  have hBe : sB (d + 1) = 18 + 3 * sB d := rfl
  refine GC.intro hT Try.func50 rfl (by decide) ?_
  intro F hF
  simp only [startAS, Try.f50, go_sem]
  have hd0 : decide ((d : Int) + 1 = 0) = false := decide_eq_false (by omega)
  refine AW.seq ?_
  refine AW.r hT ?_
  refine AW.seq ?_
  refine AW.seq ?_
  refine AW.region ?_
  refine AL.u hT ?_
  rw [hd0]
  simp only [go_sem, simprocAttr]
  refine AL.on ?_
  refine AL.cP (ob := 0) (c_spec_pick bs hbs p hp (by omega) 4 (by omega) (by omega)) ?_
  rintro os r ⟨p1, more, rfl, hp1a, hp1b, k1, rfl, k1a, k1b⟩
  refine ⟨_, more, rfl, rfl, rfl, ?_⟩
  simp only [go_sem, simprocAttr]
  refine AL.e hT ?_
  refine AW.c (fun h => ?_) (fun h => ?_)
  · skip
    refine AW.seq ?_
    refine AW.region ?_
    refine AL.u hT ?_
    refine AL.fz 16 ?_
    simp only [go_sem, simprocAttr]
    refine AL.cP (ob := 0) (c_spec_of bs hbs p1 (by omega) (by omega) w10 (by decide) (by decide)) ?_
    rintro os r ⟨p2, more, rfl, hp2a, hp2b, s, rfl, hs⟩
    refine ⟨_, more, rfl, rfl, rfl, ?_⟩
    simp only [go_sem, simprocAttr]
    refine AL.e hT ?_
    simp only [go_sem, simprocAttr]
    refine AW.own 1 2 9 (.strs []) ?_
    simp only [go_sem, simprocAttr]
    refine AW.own 1 3 30 (.vals []) ?_
    simp only [go_sem, simprocAttr]
    refine AW.pick [0, 3, 4, 1] (by intro i hi; rw [hF] at hi; simp at hi; subst hi; rfl) ?_
    simp only [go_sem, simprocAttr]
    refine AW.ret ?_
    simp only [go_sem, simprocAttr]
    have hl := w10_le s hs
    exact ⟨_, ⟨1, s, [], []⟩, _, _, _, rfl, by omega, by omega, rfl, by simp only [vsz, ssz, ssum, vsum]; simp; omega⟩
  · skip
    refine AW.skip ?_
    refine AW.seq ?_
    refine AW.r hT ?_
    refine AW.cut (ι := Int × Int) (fun x => (x.1 = 2 ∨ x.1 = 3) ∧ p1 ≤ x.2 ∧ x.2 ≤ p1 + 1) (fun x => ⟨[.ptr 0 0, iv .i64 ((d : Int) + 1)] ++ List.replicate 2 .dead ++ [.ptr 1 0, .ptr 2 0] ++ List.replicate 47 .dead, [.box 66 [.d (.bytes bs), iv .i64 x.2], .box 30 [iv .i64 0, sv ⟨#[]⟩, .d (.v (.slice none 0 0)), .d (.v (.slice none 0 0))], .box 30 [iv .i64 x.1, sv ⟨#[]⟩, .d (.v (.slice none 0 0)), .d (.v (.slice none 0 0))]]⟩) (fun _ => by rw [hF]; first | exact Nat.zero_le _ | simp) ?_ ?_
    · refine AW.seq ?_
      refine AW.region ?_
      refine AL.u hT ?_
      refine AL.cP (ob := 0) (c_spec_pick bs hbs p1 (by omega) (by omega) 2 (by omega) (by omega)) ?_
      rintro os r ⟨p2, more, rfl, hp2a, hp2b, k2, rfl, k2a, k2b⟩
      refine ⟨_, more, rfl, rfl, rfl, ?_⟩
      simp only [go_sem, simprocAttr]
      refine AL.e hT ?_
      refine AW.c (fun h => ?_) (fun h => ?_)
      · skip
        refine AW.r hT ?_
        refine ⟨(3, p2), ⟨.inr rfl, hp2a, hp2b⟩, ?_⟩
        simp only [go_sem, simprocAttr]
      · skip
        refine AW.skip ?_
        refine ⟨(2, p2), ⟨.inl rfl, hp2a, hp2b⟩, ?_⟩
        simp only [go_sem, simprocAttr]
    · intro ⟨kd, p2⟩ ⟨hkd, hp2a, hp2b⟩
      dsimp only at hkd hp2a hp2b
      refine AW.seq ?_
      refine AW.r hT ?_
      refine AW.seq ?_
      refine AW.seq ?_
      refine AW.region ?_
      refine AL.u hT ?_
      refine AL.cP (ob := 0) (c_spec_pick bs hbs p2 (by omega) (by omega) 4 (by omega) (by omega)) ?_
      rintro os r ⟨p3, more, rfl, hp3a, hp3b, k3, rfl, k3a, k3b⟩
      refine ⟨_, more, rfl, rfl, rfl, ?_⟩
      simp only [go_sem, simprocAttr]
      refine AL.e hT ?_
      simp only [go_sem, simprocAttr]
      refine AW.own 2 3 30 (.vals []) ?_
      simp only [go_sem, simprocAttr]
      refine AW.own 2 2 9 (.strs []) ?_
      simp only [go_sem, simprocAttr]
      refine AW.block ?_
      refine AW.loop (ι := Int × Int × List Val × List ByteArray × Nat × Nat) (fun x => 0 ≤ x.1 ∧ x.1 ≤ 3 ∧ p ≤ x.2.1 ∧ x.2.1 + x.1 * sCost d ≤ p + 3 + 3 * sCost d ∧ (x.2.2.1.length : Int) + vsum x.2.2.1 + x.1 * (1 + sB d) ≤ 3 + 3 * sB d ∧ (x.2.2.1.length : Int) + x.1 ≤ 3 ∧ ssz x.2.2.2.1 + x.1 * 5 ≤ 15 ∧ (x.2.2.2.1.length : Int) + x.1 ≤ 3) (fun x => ⟨[.ptr 0 0, iv .i64 ((d : Int) + 1)] ++ List.replicate 2 .dead ++ [.ptr 1 0, .ptr 2 0, .row 3 0, iv .i64 x.1] ++ List.replicate 45 .dead, [.box 66 [.d (.bytes bs), iv .i64 x.2.1], .box 30 [iv .i64 0, sv ⟨#[]⟩, .d (.v (.slice none 0 0)), .d (.v (.slice none 0 0))], .box 30 [iv .i64 kd, sv ⟨#[]⟩, .row 5 x.2.2.2.2.2, .row 4 x.2.2.2.2.1], .row 9 (.strs k10) 0, .row 30 (.vals x.2.2.1) x.2.2.2.2.1, .row 9 (.strs x.2.2.2.1) x.2.2.2.2.2]⟩) (fun x => x.1.toNat) (k3, p3, [], [], 0, 0) (by have hz := k3b (by omega); have := mul_le3 k3 (sCost d) k3a (by omega) (by omega); have := mul_le3 k3 (1 + sB d) k3a (by omega) (by omega); exact ⟨k3a, by show k3 ≤ 3; omega, by show p ≤ p3; omega, by show p3 + k3 * sCost d ≤ _; omega, by simp [vsum]; omega, by simp; omega, by simp [ssz, ssum]; omega, by simp; omega⟩) (fun _ => by rw [hF]; first | exact Nat.zero_le _ | simp) ?_ ?_
      · simp only [go_sem, simprocAttr]
        all_goals (rfl)
      · intro ⟨i, q, vs, ks, a, b⟩ ⟨hi0, hi3, hq0, hq, hv, hl, hk, hkl⟩
        dsimp only at hi0 hi3 hq0 hq hv hl hk hkl
        refine AW.seq ?_
        refine AW.seq ?_
        refine AW.r hT ?_
        refine AW.c (fun h => ?_) (fun h => ?_)
        · skip
          have hqn : q ≤ 1000000 := by have := Int.mul_nonneg hi0 (show 0 ≤ sCost d by omega); omega
          have hmi := mul_ge1 i (sCost d) (by omega) (by omega)
          have hv0 := vsum_nonneg vs
          have hw4 : k10.length = 4 := rfl
          refine AW.skip ?_
          refine AW.seq ?_
          refine AW.block ?_
          refine AW.seq ?_
          refine AW.drawP hT 7 [0, 1, 2, 3, 4, 5, 6] [5] 0 (by decide) rfl ?_
          simp only [go_sem, simprocAttr]
          refine DPi.u ?_
          rw [show IntKind.i64.wrap ((d : Int) + 1 - 1) = (d : Int) by rw [wrapId (by omega) (by omega)]; omega]
          refine DPi.cP (ih q (by omega) (by omega)) ?_
          rintro os r ⟨q1, more, rfl, hq1a, hq1b, v, rfl, hvz⟩
          refine ⟨_, more, rfl, rfl, rfl, ?_⟩
          simp only [go_sem, simprocAttr]
          refine DPi.lit ?_
          simp only [go_sem, simprocAttr]
          show AL _ _ _ _ _ _
          try simp only [go_sem, simprocAttr]
          refine AL.e hT ?_
          refine AW.seq ?_
          refine AW.r hT ?_
          refine AW.c (fun h => ?_) (fun h => ?_)
          · skip
            refine AW.draw hT 7 (by decide) ?_
            simp only [go_sem, simprocAttr]
            refine DL.u ?_
            refine DL.lit rfl rfl rfl rfl rfl (by simp only [go_sem, simprocAttr]; rfl) ?_
            simp only [go_sem, simprocAttr]
            refine DL.e ?_
            refine AL.e hT ?_
            obtain ⟨ks1, hks1⟩ : ∃ x, x = ks ++ [k10.getD i.toNat ⟨#[]⟩] := ⟨_, rfl⟩
            obtain ⟨b1, hb1⟩ : ∃ x, x = b + 1 := ⟨_, rfl⟩
            have hk4 := k10_le _ (getD_mem k10 ⟨#[]⟩ i.toNat (by omega))
            have hk1 : ssz ks1 + (i - 1) * 5 ≤ 15 := by rw [hks1, ssz_snoc]; omega
            have hkl1 : (ks1.length : Int) + (i - 1) ≤ 3 := by rw [hks1, List.length_append, List.length_singleton]; omega
            refine AW.r hT ?_
            refine ⟨(i - 1, q1, vs ++ [v], ks1, a + 1, b1), (by have e1 := mul_step i (sCost d); have e2 := mul_step i (1 + sB d); have e3 := vsum_snoc vs v; exact ⟨by show 0 ≤ i - 1; omega, by show i - 1 ≤ 3; omega, by show p ≤ q1; omega, by show q1 + (i - 1) * sCost d ≤ _; omega, by simp only [List.length_append, List.length_singleton]; omega, by simp only [List.length_append, List.length_singleton]; omega, hk1, hkl1⟩), (by show (i - 1).toNat < i.toNat; omega), ?_⟩
            simp only [go_sem, simprocAttr]
            rw [wrapId (by omega) (by omega)]
            subst hks1; subst hb1
            simp
          · skip
            obtain ⟨ks1, hks1⟩ : ∃ x, x = ks := ⟨_, rfl⟩
            obtain ⟨b1, hb1⟩ : ∃ x, x = b := ⟨_, rfl⟩
            have hk1 : ssz ks1 + (i - 1) * 5 ≤ 15 := by rw [hks1]; omega
            have hkl1 : (ks1.length : Int) + (i - 1) ≤ 3 := by rw [hks1]; omega
            refine AW.skip ?_
            refine AW.r hT ?_
            refine ⟨(i - 1, q1, vs ++ [v], ks1, a + 1, b1), (by have e1 := mul_step i (sCost d); have e2 := mul_step i (1 + sB d); have e3 := vsum_snoc vs v; exact ⟨by show 0 ≤ i - 1; omega, by show i - 1 ≤ 3; omega, by show p ≤ q1; omega, by show q1 + (i - 1) * sCost d ≤ _; omega, by simp only [List.length_append, List.length_singleton]; omega, by simp only [List.length_append, List.length_singleton]; omega, hk1, hkl1⟩), (by show (i - 1).toNat < i.toNat; omega), ?_⟩
            simp only [go_sem, simprocAttr]
            rw [wrapId (by omega) (by omega)]
            subst hks1; subst hb1
            simp
        · skip
          refine AW.exit ?_
          simp only [go_sem, simprocAttr]
          refine AW.seq ?_
          refine AW.r hT ?_
          simp only [go_sem, simprocAttr]
          refine AW.pick [0, 5, 4, 1] (by intro i hi; rw [hF] at hi; simp at hi; subst hi; rfl) ?_
          simp only [go_sem, simprocAttr]
          refine AW.ret ?_
          simp only [go_sem, simprocAttr]
          have hi00 : i = 0 := by omega
          subst hi00
          exact ⟨_, ⟨kd, ⟨#[]⟩, ks, vs⟩, _, _, _, rfl, by omega, by omega, rfl, by show ((0 : Nat) : Int) + ssz ks + (vs.length + vsum vs) ≤ _; omega⟩

end Go.Proofs.Ytlhfjjkoflpecaa

