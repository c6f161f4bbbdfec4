/- The framework of these proofs: abstract values, objects and states; the rules of walking the program's text over them, each shown sound over the model's own rules. -/
import Derived.Test.YtlhfjjkoflpecaaAwa
import Derived.KernelRfl
import Derived.Laws.StructEq
import Derived.Orders
namespace Go.Proofs.YtlhfjjkoflpecaaAw
open Go.RowKit
set_option linter.unusedSimpArgs false
set_option linter.unusedVariables false

section
variable {P : Program} {F : Fr} {S : Nat → Nat → Prop} {w : World} {obs : List Ob} {V : Nat → Value} {t : TypeId} {i : TI}

theorem splice_get {α : Type} (xs us : List α) (off n : Nat) (h : off ≤ xs.length) :
    (xs.take off ++ (us ++ xs.drop (off + us.length)))[n]? = if n < off then xs[n]? else if n < off + us.length then us[n - off]? else xs[n]? := by
  have hl : (xs.take off).length = off := by rw [List.length_take]; omega
  by_cases h1 : n < off
  · rw [if_pos h1, List.getElem?_append_left (by omega), List.getElem?_take, if_pos h1]
  · rw [if_neg h1, List.getElem?_append_right (by omega), hl]
    by_cases h2 : n < off + us.length
    · rw [if_pos h2, List.getElem?_append_left (by omega)]
    · rw [if_neg h2, List.getElem?_append_right (by omega), List.getElem?_drop]
      congr 1; omega
theorem splice_take {α : Type} (xs us : List α) (off m : Nat) (h : off + us.length ≤ m) :
    (xs.take off ++ (us ++ xs.drop (off + us.length))).take m = (xs.take m).take off ++ (us ++ (xs.take m).drop (off + us.length)) := by
  by_cases hx : off ≤ xs.length
  · apply List.ext_getElem?
    intro n
    rw [List.getElem?_take, splice_get xs us off n hx]
    by_cases hm : off ≤ (xs.take m).length
    · rw [splice_get (xs.take m) us off n hm]
      simp only [List.getElem?_take]
      by_cases h1 : n < off
      · simp [h1, show n < m by omega]
      · by_cases h2 : n < off + us.length
        · simp [h1, h2, show n < m by omega]
        · simp [h1, h2]
    · rw [List.length_take] at hm; omega
  · rw [List.take_of_length_le (show xs.length ≤ off by omega), List.drop_eq_nil_of_le (show xs.length ≤ off + us.length by omega),
      List.take_of_length_le (show xs.length ≤ m by omega), List.take_of_length_le (show xs.length ≤ off by omega), List.drop_eq_nil_of_le (show xs.length ≤ off + us.length by omega)]
    rw [List.take_of_length_le]
    simp; omega

def storeR (i : TI) (obs : List Ob) (a x : AV) : Option (Prop × List Ob) :=
  match a with
  | .rptr o k j f =>
    match cellsOf x with
    | some ys =>
      if ys.all (leafB obs) = true ∧ ys.length = i.size then
        match freezeL obs ys with
        | some (ds, obs1) =>
          match obs1[o]? with
          | some (.row e t k') =>
            if k = k' ∧ f + i.size ≤ t.sz then
              match t.withEl j ((t.el j).take f ++ (ds ++ (t.el j).drop (f + ds.length))) with
              | some t' => some (True, obs1.set o (.row e t' k))
              | none => none
            else none
          | _ => none
        | none => none
      else none
    | none => none
  | _ => none

theorem out_storeR (hst : St F.w0 F.X F.S0 obs V S w) (hT : TOk P t i) {a x : AV} {av xv : Value} (ha : RepA S w obs V a av) (hx : RepA S w obs V x xv) {p : Prop} {obs' : List Ob} (h : storeR i obs a x = some (p, obs')) :
    ∃ w' V' S', (Instr.storeAt t av xv).run P w = .ok () w' ∧ St F.w0 F.X F.S0 obs' V' S' w' ∧ Mov S w obs V S' w' obs' V' := by
  unfold storeR at h
  split at h
  · rename_i o k j f
    split at h
    · rename_i ys hys
      split at h
      · rename_i hh
        obtain ⟨hall, hlen⟩ := hh
        split at h
        · rename_i ds obs1 hfr
          split at h
          · rename_i e d k' ho
            split at h
            · rename_i hh2
              obtain ⟨rfl, hfz⟩ := hh2
              split at h
              · rename_i d' hwe
                simp only [Option.some.injEq, Prod.mk.injEq] at h
                obtain ⟨-, rfl⟩ := h
                have hr0 := cellsOf_ok hys hall hst hx
                have h1 := leaves_one hst hall hr0
                obtain ⟨V1, S1, st1, mv, hr⟩ := freezeL_ok ys _ hst hr0 hfr
                have hver : verOf obs1 o = some k := by simp [verOf, ho, Ob.ver]
                have hdt : dtAt obs1 o = d := by simp [dtAt, ho, Ob.dt]
                obtain ⟨hol, hh⟩ := mv _ _ ha
                obtain ⟨_, hh⟩ := hh k hver
                obtain ⟨g, n, c, hV, hj, rfl⟩ := hh rfl
                rw [hdt] at hj ⊢
                obtain ⟨hs1, xs, ⟨x1, x2, x3⟩, x4⟩ := st1.ob o _ ho
                rcases x3 with ⟨A, p1, p2⟩ | ⟨g', cap, cur, p1, p2, p3, p4, p5, p6, p7⟩
                · omega
                · rw [hV] at p1
                  simp only [Value.slice.injEq, Option.some.injEq, Addr.mk.injEq, and_true] at p1
                  obtain ⟨rfl, rfl, rfl⟩ := p1
                  obtain ⟨w1, w2, w3, w4, w5, w6⟩ := withEl_ok hwe hj
                  have hul : xv.cells.toList.length = i.size := by rw [RepAs.length hr0, hlen]
                  have hdl : ds.length = i.size := by have := RepAs.length hr; rw [List.length_map] at this; omega
                  have hbound : j * d.sz + f + i.size ≤ d.len * d.sz := by
                    calc j * d.sz + f + i.size ≤ j * d.sz + d.sz := by omega
                      _ = (j + 1) * d.sz := by rw [Nat.add_mul]; omega
                      _ ≤ _ := Nat.mul_le_mul_right _ hj
                  have hcap : d.len * d.sz ≤ c * d.sz := Nat.mul_le_mul_right _ p3
                  have hcl : cur.toList.length = c * d.sz := by simpa using p6
                  have hrun := run_storeVar (P := P) (w := w) hT (v := xv) (g := g) (off := j * d.sz + f) (cs := cur.toList) (ty := e) rfl hul (by rw [hul, hcl]; omega) (by simpa using p2) h1
                  have hown : ownB (V1 o) = some g := by rw [hV]; simp [ownB]; omega
                  have he : Evo obs1 V1 (obs1.set o (.row e d' k)) (upd V1 o (V1 o)) := Evo.set ho (fun _ h => h) (fun k1 hk => by
                    simp only [Ob.ver, Option.some.injEq] at hk
                    subst hk
                    exact ⟨k, rfl, Nat.le_refl _, fun _ => ⟨rfl, w4, w3⟩⟩)
                  have hblk : ∀ q, q < w.heap.size → ownB (V1 o) ≠ some q → (w.setRow g (cur.toList.take (j * d.sz + f) ++ (xv.cells.toList ++ cur.toList.drop (j * d.sz + f + xv.cells.toList.length))).toArray).heap[q]? = w.heap[q]? :=
                    fun q _ hne => setRow_other w g q _ (fun e => hne (by rw [hown, e]))
                  have hw : ∀ b q, S1 b q → (w.setRow g (cur.toList.take (j * d.sz + f) ++ (xv.cells.toList ++ cur.toList.drop (j * d.sz + f + xv.cells.toList.length))).toArray).cell? ⟨b, q, none⟩ = w.cell? ⟨b, q, none⟩ := fun b q hq =>
                    cell_block (hblk b (st1.sheap b q hq) (fun e => st1.off o _ b q ho rfl e hq))
                  have hx0 : j * d.sz + f ≤ xs.length := by omega
                  refine ⟨_, upd V1 o (V1 o), S1, hrun, st1.turn ho rfl rfl rfl rfl (by simp) hblk (fun _ _ h => h) (fun _ _ h => .inl h) he ?_ (fun g' _ hg' => .inl hg'), mv.trans fun y u hy => RepA.mono (fun _ _ h => h) hw he y u hy⟩
                  refine ⟨w1, xs.take (j * d.sz + f) ++ (xv.cells.toList ++ xs.drop (j * d.sz + f + xv.cells.toList.length)), ⟨?_, fun u hu => ?_, .inr ⟨g, c, _, by rw [upd_eq, w3]; exact hV, setRow_heap w g _ _ e _ p2, by rw [w3]; exact p3, p4, p5, ?_, ?_⟩⟩, ?_⟩
                  · rw [w3, w4, ← x1]
                    simp only [List.length_append, List.length_take, List.length_drop]; omega
                  · rcases List.mem_append.1 hu with hu | hu
                    · exact x2 u (List.mem_of_mem_take hu)
                    · rcases List.mem_append.1 hu with hu | hu
                      · exact h1 u hu
                      · exact x2 u (List.mem_of_mem_drop hu)
                  · rw [w4, ← hcl]
                    simp only [List.size_toArray, List.length_append, List.length_take, List.length_drop]; omega
                  · rw [w3, w4]
                    show List.take _ (cur.toList.take (j * d.sz + f) ++ (xv.cells.toList ++ cur.toList.drop (j * d.sz + f + xv.cells.toList.length))) = _
                    rw [splice_take _ _ _ _ (by omega), p7]
                  · intro j' i' dd hj' hd
                    rw [w3] at hj'
                    rw [w4]
                    by_cases hjj : j' = j
                    · subst hjj
                      have hel := Dt.el_len d j' hs1
                      have hil : i' < ((d.el j').take f ++ (ds ++ (d.el j').drop (f + ds.length))).length := by rw [w6.1]; exact (List.getElem?_eq_some_iff.1 hd).1
                      have hil2 : i' < d.sz := by
                        simp only [List.length_append, List.length_take, List.length_drop, hel, hdl] at hil; omega
                      rw [splice_get _ _ _ _ hx0]
                      have hget := List.getElem?_eq_getElem hil
                      have hg2 := hget
                      rw [splice_get _ _ _ _ (by rw [hel]; omega)] at hg2
                      by_cases c1 : i' < f
                      · rw [if_pos c1] at hg2
                        obtain ⟨u, hu, hru⟩ := x4 j' i' _ hj' hg2
                        exact ⟨u, by rw [if_pos (by omega)]; exact hu, w6.2 S1 _ i' _ _ u hget hd (Rep.mono (fun _ _ h => h) hw hru)⟩
                      · rw [if_neg c1] at hg2
                        by_cases c2 : i' < f + ds.length
                        · rw [if_pos c2] at hg2
                          obtain ⟨u, hu, hru⟩ := RepAs.get hr (i' - f) (.d _) (by rw [List.getElem?_map, hg2]; rfl)
                          refine ⟨u, ?_, w6.2 S1 _ i' _ _ u hget hd (Rep.mono (fun _ _ h => h) hw hru)⟩
                          rw [if_neg (by omega), if_pos (by omega), ← hu]
                          congr 1; omega
                        · rw [if_neg c2] at hg2
                          obtain ⟨u, hu, hru⟩ := x4 j' i' _ hj' hg2
                          exact ⟨u, by rw [if_neg (by omega), if_neg (by omega)]; exact hu, w6.2 S1 _ i' _ _ u hget hd (Rep.mono (fun _ _ h => h) hw hru)⟩
                    · rw [w5 j' hjj] at hd
                      have hil2 : i' < d.sz := by rw [← Dt.el_len d j' hs1]; exact (List.getElem?_eq_some_iff.1 hd).1
                      obtain ⟨u, hu, hru⟩ := x4 j' i' _ hj' hd
                      refine ⟨u, ?_, Rep.mono (fun _ _ h => h) hw hru⟩
                      rw [splice_get _ _ _ _ hx0]
                      rcases Nat.lt_or_gt_of_ne hjj with hlt | hgt
                      · have : j' * d.sz + i' < j * d.sz := by
                          calc j' * d.sz + i' < j' * d.sz + d.sz := by omega
                            _ = (j' + 1) * d.sz := by rw [Nat.add_mul]; omega
                            _ ≤ _ := Nat.mul_le_mul_right _ hlt
                        rw [if_pos (by omega)]; exact hu
                      · have : j * d.sz + d.sz ≤ j' * d.sz := by
                          calc j * d.sz + d.sz = (j + 1) * d.sz := by rw [Nat.add_mul]; omega
                            _ ≤ _ := Nat.mul_le_mul_right _ hgt
                        rw [if_neg (by omega), if_neg (by omega)]; exact hu
              · cases h
            · cases h
          · cases h
        · cases h
      · cases h
    · cases h
  · cases h

/-! ### make, a struct written out, conversions -/
def Dt.zeros (t : Dt) (n : Nat) : Dt :=
  match t with
  | .v x => .v x
  | .docs _ => .docs (List.replicate n default)
  | .vals _ => .vals (List.replicate n default)
  | .rows _ => .rows (List.replicate n default)
  | .rowss _ => .rowss (List.replicate n [])
  | .strs _ => .strs (List.replicate n ⟨#[]⟩)
  | .ints _ => .ints (List.replicate n 0)
  | .bytes _ => .bytes (List.replicate n 0)
  | .bools _ => .bools (List.replicate n false)
  | .pieces _ => .pieces (List.replicate n default)
  | .items _ => .items (List.replicate n default)
theorem getD_replicate {α : Type} (n : Nat) (d : α) (j : Nat) : (List.replicate n d).getD j d = d := by
  simp only [List.getD_eq_getElem?_getD, List.getElem?_replicate]
  split <;> rfl
theorem zeros_ok {t : Dt} (ht : t.isSl = true) (n : Nat) : (t.zeros n).isSl = true ∧ (t.zeros n).len = n ∧ (t.zeros n).sz = t.sz ∧ ∀ j, (t.zeros n).el j = (t.zeros 0).el 0 := by
  cases t <;> first
    | (simp [Dt.isSl] at ht; done)
    | (refine ⟨rfl, by simp [Dt.zeros, Dt.len], rfl, fun j => ?_⟩; simp only [Dt.zeros, Dt.el, getD_replicate])

def makeA (i : TI) (bytes : Nat) (obs : List Ob) (l c : AV) : Option (Prop × AV × List Ob) :=
  if i.kind = 3 then
    match l, c with
    | .d (.v (.int _ n)), .d (.v (.int _ m)) => some (n = m ∧ 0 ≤ n ∧ (bytes : Int) * n ≤ 140737488355328 ∧ n ≤ 9223372036854775807, .row obs.length 0, obs ++ [.row i.elem (i.nil.zeros n.toNat) 0])
    | _, _ => none
  else none
theorem makeA_ok (hst : St F.w0 F.X F.S0 obs V S w) (hT : TOk P t i) {ie : TI} (hE : TOk P i.elem ie) (hsz : i.nil.sz = ie.size) (hze : CellsLe ie.zero ((i.nil.zeros 0).el 0)) {l c : AV} {lv cv : Value} (hl : RepA S w obs V l lv) (hc : RepA S w obs V c cv)
    {p : Prop} {r : AV} {obs' : List Ob} (h : makeA i ie.bytes obs l c = some (p, r, obs')) (hp : p) : Out P F obs V S w (Instr.makeSlice t lv cv) r obs' := by
  unfold makeA at h
  split at h
  · rename_i hk
    obtain ⟨ht, hn1, hn2⟩ := hT.slct hk
    split at h
    · rename_i k n k' m
      have e1 := Rep.scalar hl; have e2 := Rep.scalar hc
      subst e1; subst e2
      simp only [Option.some.injEq, Prod.mk.injEq] at h
      obtain ⟨rfl, rfl, rfl⟩ := h
      obtain ⟨rfl, h0, hb, hm⟩ := hp
      obtain ⟨q, _, hq1, hq2, hq3, hq4⟩ := hE.run_info (w := w)
      have hrun := run_make (P := P) w t i.elem q ie.zval ht hq1 hq2 k k' n n h0 (Int.le_refl _) (by rw [hq4]; omega) hm
      obtain ⟨z1, z2, z3, z4⟩ := zeros_ok hn1 n.toNat
      have hzl : ie.zero.length = ie.size := by
        have := RepAs.length (hE.zrep S w obs V); rw [List.length_map] at this; rw [← this]; simpa using hE.zsz
      have hpos : 0 < ie.size := by rw [← hsz]; exact Dt.sz_pos _
      have hzcl : ie.zval.cells.toList.length = ie.size := by simpa using hE.zsz
      have hmade : (madeCells ie.zval.cells (n.toNat * q.size)).toList.length = n.toNat * (i.nil.zeros n.toNat).sz := by
        rw [z3, hsz, ← hq3]; simp [madeCells]
      have hget : ∀ x, x < n.toNat * ie.size → (madeCells ie.zval.cells (n.toNat * q.size)).toList[x]? = ie.zval.cells.toList[x % ie.size]? := by
        intro x hx
        have hlt : x % ie.size < ie.zval.cells.size := by rw [hE.zsz]; exact Nat.mod_lt _ hpos
        simp only [madeCells, hq3, Array.getElem?_toList, Array.getElem?_map, hE.zsz]
        rw [show (Array.range (n.toNat * ie.size))[x]? = some x by simp [hx]]
        simp only [Option.map_some]
        rw [Array.getElem?_eq_getElem hlt]
        congr 1
        exact getElem!_pos ie.zval.cells _ hlt
      have h1 : ∀ u ∈ (madeCells ie.zval.cells (n.toNat * q.size)).toList, u.oneCell' = true := by
        intro u hu
        obtain ⟨x, hx, rfl⟩ := List.getElem_of_mem hu
        have hx' : x < n.toNat * ie.size := by rw [hmade, z3, hsz] at hx; exact hx
        have := hget x hx'
        rw [List.getElem?_eq_getElem hx] at this
        obtain ⟨v, hv, hrv⟩ := RepAs.get (hE.zrep S w obs V) (x % ie.size) (.d (ie.zero[x % ie.size]'(by rw [hzl]; exact Nat.mod_lt _ hpos))) (by simp [hzl, Nat.mod_lt _ hpos])
        rw [hv] at this
        simp only [Option.some.injEq] at this
        rw [this]; exact Rep.oneCell hrv
      have hrr : RepRow S w (i.nil.zeros n.toNat) (madeCells ie.zval.cells (n.toNat * q.size)).toList := by
        intro j e d hj hd
        rw [z4 j] at hd
        have he : e < ie.size := by rw [← hzl, hze.1]; exact (List.getElem?_eq_some_iff.1 hd).1
        obtain ⟨v, hv, hrv⟩ := RepAs.get (hE.zrep S w obs V) e (.d (ie.zero[e]'(by rw [hzl]; exact he))) (by simp [hzl, he])
        rw [z2] at hj
        have hlt : j * ie.size + e < n.toNat * ie.size := by
          calc j * ie.size + e < j * ie.size + ie.size := by omega
            _ = (j + 1) * ie.size := by rw [Nat.add_mul]; omega
            _ ≤ _ := Nat.mul_le_mul_right _ hj
        refine ⟨v, ?_, hze.2 S w e _ d v (List.getElem?_eq_getElem (by rw [hzl]; exact he)) hd hrv⟩
        rw [z3, hsz, hget _ hlt, Nat.mul_comm, Nat.mul_add_mod, Nat.mod_eq_of_lt he]
        exact hv
      obtain ⟨V1, a1, a2, a3⟩ := hst.newRow i.elem (d := i.nil.zeros n.toNat) (cs := (madeCells ie.zval.cells (n.toNat * q.size)).toList) n.toNat z1 hmade (by rw [z2]; exact Nat.le_refl _) (by unfold maxLen; omega)
        (fun u hu => h1 u (List.mem_of_mem_take hu)) (by rw [z2, ← hmade, List.take_length]; exact hrr)
      rw [z2] at a3
      simp only [Array.toArray_toList] at a1 a2 a3
      exact ⟨_, _, V1, S, hrun, a1, a2, a3⟩
    · cases h
  · cases h

def fieldsA (i : TI) (obs : List Ob) (tmps : List AV) : List AV → List (Nat × Operand) → Option (List AV)
  | acc, [] => some acc
  | acc, (f, x) :: r =>
    match i.offs[f]? with
    | some (off, sz) =>
      match cellsOf (opv tmps x) with
      | some ys => if ys.all (leafB obs) = true ∧ ys.length = sz ∧ off + sz ≤ acc.length then fieldsA i obs tmps (splice acc off ys) r else none
      | none => none
    | none => none
def buildA (i : TI) (obs : List Ob) (tmps : List AV) (parts : List (Nat × Operand)) : Option (Prop × AV) :=
  if i.kind = 1 then
    match fieldsA i obs tmps (i.zero.map .d) parts with
    | some cells => some (True, .agg cells)
    | none => none
  else if i.kind = 2 then
    match fieldsA i obs tmps (i.zero.map .d) parts with
    | some cells => some (True, .agg cells)
    | none => none
  else none
theorem fieldsA_mem (i : TI) (tmps : List AV) : ∀ (parts : List (Nat × Operand)) (acc : List AV) {cells : List AV}, fieldsA i obs tmps acc parts = some cells → ∀ p ∈ parts, ∃ q, i.offs[p.1]? = some q
  | [], acc, cells, h, p, hp => by cases hp
  | (f, x) :: r, acc, cells, h, p, hp => by
      unfold fieldsA at h
      split at h
      · rename_i off sz hof
        rcases List.mem_cons.1 hp with rfl | hp
        · exact ⟨_, hof⟩
        · split at h
          · split at h
            · exact fieldsA_mem i tmps r _ h p hp
            · cases h
          · cases h
      · cases h
theorem fill_congr (pl pl' : Nat → Option (Nat × Nat)) : ∀ (parts : List (Nat × Value)) (cur : Array Value), (∀ p ∈ parts, pl p.1 = pl' p.1) → Instr.fill pl cur parts = Instr.fill pl' cur parts
  | [], cur, _ => rfl
  | (f, x) :: r, cur, h => by
      have h1 := h (f, x) (by simp)
      have ih := fun cur => fill_congr pl pl' r cur (fun p hp => h p (by simp [hp]))
      simp only at h1
      simp only [Instr.fill, h1, ih]
theorem fill_ok (hst : St F.w0 F.X F.S0 obs V S w) {a : Act} {tmps : List AV} {vs : List Value} (ha : a.tmps = vs.toArray) (htm : RepAs S w obs V tmps vs) (i : TI) :
    ∀ (parts : List (Nat × Operand)) (acc : List AV) (cur : Array Value), RepAs S w obs V acc cur.toList → ∀ {cells : List AV}, fieldsA i obs tmps acc parts = some cells →
      ∃ cs : Array Value, Instr.fill (i.offs.toArray[·]?) cur (parts.map fun p => (p.1, a.eval p.2)) = some cs ∧ RepAs S w obs V cells cs.toList
  | [], acc, cur, hr, cells, h => by
      simp only [fieldsA, Option.some.injEq] at h
      subst h
      exact ⟨cur, rfl, hr⟩
  | (f, x) :: r, acc, cur, hr, cells, h => by
      unfold fieldsA at h
      split at h
      · rename_i off sz hof
        split at h
        · rename_i ys hys
          split at h
          · rename_i hh
            obtain ⟨hall, hlen, hle⟩ := hh
            have hop := opv_ok ha htm x
            have hr1 := cellsOf_ok hys hall hst hop
            have hul := RepAs.length hr1
            have hcl := RepAs.length hr
            have hsz : (a.eval x).cells.size = sz := by rw [← hlen, ← hul]; simp
            have hcs : cur.size = acc.length := by simpa using hcl
            obtain ⟨f1, f2⟩ := Go.Great.foldl_set off (a.eval x).cells.toList 0 cur
            have heq : ((a.eval x).cells.zipIdx.foldl (fun cs (x : Value × Nat) => cs.setIfInBounds (off + x.2) x.1) cur) = (cur.toList.take off ++ ((a.eval x).cells.toList ++ cur.toList.drop (off + (a.eval x).cells.toList.length))).toArray := by
              rw [← Array.foldl_toList, Array.toList_zipIdx]
              apply Array.ext_getElem?
              intro k
              rw [f2 k]
              rw [show (cur.toList.take off ++ ((a.eval x).cells.toList ++ cur.toList.drop (off + (a.eval x).cells.toList.length))).toArray[k]? = (cur.toList.take off ++ ((a.eval x).cells.toList ++ cur.toList.drop (off + (a.eval x).cells.toList.length)))[k]? by simp]
              rw [splice_get _ _ _ _ (by rw [hcl]; omega)]
              simp only [Nat.add_zero, Array.getElem?_toList, Array.length_toList, hsz]
              by_cases c1 : k < off
              · rw [if_neg (by omega), if_pos c1]
              · by_cases c2 : k < off + sz
                · rw [if_pos (by omega), if_neg c1, if_pos c2]
                · rw [if_neg (by omega), if_neg c1, if_neg c2]
            have hr2 : RepAs S w obs V (splice acc off ys) ((a.eval x).cells.zipIdx.foldl (fun cs (x : Value × Nat) => cs.setIfInBounds (off + x.2) x.1) cur).toList := by
              rw [heq]; exact RepAs.splice off hr hr1
            obtain ⟨cs, c1, c2⟩ := fill_ok hst ha htm i r _ _ hr2 h
            refine ⟨cs, ?_, c2⟩
            simp only [List.map_cons, Instr.fill]
            rw [show i.offs.toArray[f]? = some (off, sz) by simpa using hof]
            simp only
            rw [if_neg (by simp [hsz]; omega)]
            exact c1
          · cases h
        · cases h
      · cases h
theorem buildA_ok (hst : St F.w0 F.X F.S0 obs V S w) (hT : TOk P t i) {a : Act} {tmps : List AV} {vs : List Value} (ha : a.tmps = vs.toArray) (htm : RepAs S w obs V tmps vs) {parts : Array (Nat × Operand)}
    {p : Prop} {r : AV} (h : buildA i obs tmps parts.toList = some (p, r)) : Pure1 P S w obs V (Instr.build t (parts.map fun (i, x) => (i, a.eval x))) r := by
  unfold buildA at h
  split at h
  · rename_i hk
    split at h
    · rename_i cells hc
      simp only [Option.some.injEq, Prod.mk.injEq] at h
      obtain ⟨-, rfl⟩ := h
      obtain ⟨fs, hfs, _, hpl⟩ := hT.strt hk
      obtain ⟨cs, h1, h2⟩ := fill_ok hst ha htm i parts.toList _ i.zval.cells (hT.zrep S w obs V) hc
      refine ⟨.agg cs, ?_, cs.toList, by simp, h2⟩
      have hm : (parts.map fun (i, x) => (i, a.eval x)).toList = parts.toList.map fun p => (p.1, a.eval p.2) := by rw [Array.toList_map]
      simp only [Instr.build, Sem.run_bind, hT.run_zero, Result.andThen_ok, run_underlying hfs, hpl, hm]
      rw [h1]
      rfl
    · cases h
  · split at h
    · rename_i hk
      split at h
      · rename_i cells hc
        simp only [Option.some.injEq, Prod.mk.injEq] at h
        obtain ⟨-, rfl⟩ := h
        obtain ⟨ha2, hes, hoffs⟩ := hT.arrt hk
        obtain ⟨cs, h1, h2⟩ := fill_ok hst ha htm i parts.toList _ i.zval.cells (hT.zrep S w obs V) hc
        refine ⟨.agg cs, ?_, cs.toList, by simp, h2⟩
        have hm : (parts.map fun (i, x) => (i, a.eval x)).toList = parts.toList.map fun p => (p.1, a.eval p.2) := by rw [Array.toList_map]
        have hcg := fill_congr (fun k => some (k * i.esz, i.esz)) (i.offs.toArray[·]?) (parts.toList.map fun p => (p.1, a.eval p.2)) i.zval.cells (fun p hp => by
          obtain ⟨q, hq, rfl⟩ := List.mem_map.1 hp
          obtain ⟨z, hz⟩ := fieldsA_mem i tmps _ _ hc q hq
          have hl := (List.getElem?_eq_some_iff.1 hz).1
          have : i.offs[q.1]? = some (q.1 * i.esz, i.esz) := by
            rw [hoffs] at hl ⊢
            rw [List.getElem?_map, List.getElem?_range (by simpa using hl)]; rfl
          simpa using this.symm)
        simp only [Instr.build, Sem.run_bind, hT.run_zero, Result.andThen_ok, run_underlying ha2, hes, hm]
        rw [hcg, h1]
        rfl
      · cases h
    · cases h
end
end Go.Proofs.YtlhfjjkoflpecaaAw

namespace Go.Proofs.YtlhfjjkoflpecaaAw
open Go.RowKit
set_option linter.unusedSimpArgs false
set_option linter.unusedVariables false

/-- What is known of the program's types. -/
structure TabOk (P : Program) (T : TypeId → Option TI) : Prop where
  ok : ∀ t i, T t = some i → TOk P t i
  sl : ∀ t i, T t = some i → i.kind = 3 → ∃ ie, T i.elem = some ie ∧ i.nil.sz = ie.size ∧ CellsLe ie.zero ((i.nil.zeros 0).el 0) ∧ (i.arr = 1 → P.underlying i.elem = some (.int .u8))
  mixed : P.follows .mixedOrders = true

/-- An operand behind a guard: what must hold so that it was computed, and the value. -/
def opo (tmps : List AV) (x : Operand) : Prop := match opv tmps x with | .g b _ => b = true | _ => True
def ops (tmps : List AV) (x : Operand) : AV := match opv tmps x with | .g _ y => y | y => y

def szB (obs : List Ob) (x : AV) (esz : Nat) : Bool :=
  match slOf obs x with
  | some d => !d.isSl || d.sz == esz
  | none => true

def binG (i : TI) (op : BinOp) (x y : AV) : Option (Prop × AV) :=
  if i.eqk = 1 then
    match x, y with
    | .agg [.d (.v (.int .i64 a)), .d (.v (.string s))], .agg [.d (.v (.int .i64 b)), .d (.v (.string r))] =>
      match op with
      | .eql => some (True, bv (decide (a = b) && decide (s = r)))
      | .neq => some (True, bv (!(decide (a = b) && decide (s = r))))
      | _ => none
    | _, _ => none
  else if i.eqk = 2 then
    match x, y with
    | .agg [.d (.v (.int .i64 a)), .d (.v (.int .i64 b))], .agg [.d (.v (.int .i64 c)), .d (.v (.int .i64 d))] =>
      match op with
      | .eql => some (True, bv (decide (a = c) && decide (b = d)))
      | .neq => some (True, bv (!(decide (a = c) && decide (b = d))))
      | _ => none
    | _, _ => none
  else if i.kind = 3 then
    match x, y with
    | .d t, .d (.v (.slice none 0 0)) =>
      if t.isSl = true then
        match op with
        | .eql => some (0 < t.len, bv false)
        | .neq => some (0 < t.len, bv true)
        | _ => none
      else none
    | _, _ => none
  else none
/-- 'f == nil' of function values. -/
def binF (op : BinOp) (x y : AV) : Option (Prop × AV) :=
  match x, y with
  | .d (.v .nilFunc), .d (.v .nilFunc) =>
    match op with
    | .eql => some (True, bv true)
    | .neq => some (True, bv false)
    | _ => none
  | _, _ => none
def minA (mx : Bool) (x y : AV) : Option (Prop × AV) :=
  match x, y with
  | .d (.v (.int k a)), .d (.v (.int _ b)) => some (True, iv k (if mx then (if b > a then b else a) else (if b < a then b else a)))
  | _, _ => none

/-- A part of a settled slice. -/
def sliceD (i : TI) (x : AV) (lo hi : Option AV) : Option (Prop × AV) :=
  match x with
  | .d t =>
    if t.isSl = true ∧ i.kind = 3 then
      match natA lo, natA hi with
      | some l, some h => some (0 ≤ l.getD 0 ∧ l.getD 0 ≤ h.getD t.len ∧ h.getD t.len ≤ t.len, .d (t.sub (l.getD 0).toNat (h.getD t.len).toNat))
      | _, _ => none
    else none
  | _ => none

def pureOp (T : TypeId → Option TI) (o : Op) (tmps : List AV) (obs : List Ob) : Option (Prop × AV) :=
  match o with
  | .move x => some (opo tmps x, ops tmps x)
  | .assign x => some (opo tmps x, ops tmps x)
  | .pick c a b =>
    match pickA (ops tmps c) (opv tmps a) (opv tmps b) with
    | some (p, r) => some (opo tmps c ∧ p, r)
    | none => none
  | .build t parts =>
    match T t with
    | some i => buildA i obs tmps parts.toList
    | none => none
  | .load t a =>
    match T t with
    | some i =>
      match loadA i obs (ops tmps a) with
      | some (p, r) => some (opo tmps a ∧ p, r)
      | none => none
    | none => none
  | .nilCheck x =>
    match nilCheckA (ops tmps x) with
    | some (p, r) => some (opo tmps x ∧ p, r)
    | none => none
  | .binOp op t x y _ =>
    match binA op (ops tmps x) (ops tmps y) with
    | some (p, r) =>
      match ops tmps y with
      | .d (.v (.bool _)) =>
        match T t with
        | some i => if i.kind = 6 then some ((opo tmps x ∧ opo tmps y) ∧ p, r) else none
        | none => none
      | _ => some ((opo tmps x ∧ opo tmps y) ∧ p, r)
    | none =>
      match T t with
      | some i =>
        match binG i op (ops tmps x) (ops tmps y) with
        | some (p, r) => some ((opo tmps x ∧ opo tmps y) ∧ p, r)
        | none => none
      | none => none
  | .unOp op _ x =>
    match unA op (ops tmps x) with
    | some (p, r) => some (opo tmps x ∧ p, r)
    | none => none
  | .convert src dst x =>
    match T src, T dst with
    | some i, some j =>
      match convA i j obs (ops tmps x) with
      | some (p, r) => some (opo tmps x ∧ p, r)
      | none => none
    | _, _ => none
  | .fieldAddr s x f =>
    match T s with
    | some i =>
      match fieldA i obs f (ops tmps x) with
      | some (p, r) => some (opo tmps x ∧ p, r)
      | none => none
    | none => none
  | .indexAddr t x y =>
    match T t with
    | some i =>
      match T i.elem with
      | some ie =>
        if szB obs (ops tmps x) ie.size = true then
          match indexA i obs (ops tmps x) (ops tmps y) with
          | some (p, r) => some ((opo tmps x ∧ opo tmps y) ∧ p, r)
          | none => none
        else none
      | none => none
    | none => none
  | .index t x y =>
    match T t with
    | some i =>
      if i.kind = 4 then
        match indexStr (ops tmps x) (ops tmps y) with
        | some (p, r) => some ((opo tmps x ∧ opo tmps y) ∧ p, r)
        | none => none
      else none
    | none => none
  | .extract x ix =>
    match extractA ix (ops tmps x) with
    | some (p, r) => some (opo tmps x ∧ p, r)
    | none => none
  | .slice t x lo hi none =>
    match T t with
    | some i =>
      if i.kind = 4 then
        match sliceStr (ops tmps x) (lo.map (ops tmps)) (hi.map (ops tmps)) with
        | some (p, r) => some ((opo tmps x ∧ (∀ y, lo = some y → opo tmps y) ∧ (∀ y, hi = some y → opo tmps y)) ∧ p, r)
        | none => none
      else
        match T i.elem with
        | some ie =>
          if szB obs (ops tmps x) ie.size = true then
            match sliceD i (ops tmps x) (lo.map (ops tmps)) (hi.map (ops tmps)) with
            | some (p, r) => some ((opo tmps x ∧ (∀ y, lo = some y → opo tmps y) ∧ (∀ y, hi = some y → opo tmps y)) ∧ p, r)
            | none => none
          else none
        | none => none
    | none => none
  | .makeFunc (.func f) first captured =>
    if first.toList.isEmpty then some (True, .fn f (captured.toList.map (opv tmps))) else none
  | .call c =>
    match c.callee with
    | .builtin .len =>
      match c.args.toList, c.argTypes.toList with
      | [x], [t] =>
        match T t with
        | some i =>
          match lenA i obs (ops tmps x) with
          | some (p, r) => some (opo tmps x ∧ p, r)
          | none => none
        | none => none
      | _, _ => none
    | .builtin .min =>
      match c.args.toList with
      | [x, y] =>
        match minA false (ops tmps x) (ops tmps y) with
        | some (p, r) => some ((opo tmps x ∧ opo tmps y) ∧ p, r)
        | none => none
      | _ => none
    | .builtin .max =>
      match c.args.toList with
      | [x, y] =>
        match minA true (ops tmps x) (ops tmps y) with
        | some (p, r) => some ((opo tmps x ∧ opo tmps y) ∧ p, r)
        | none => none
      | _ => none
    | _ => none
  | _ => none

section
variable {P : Program} {F : Fr} {S : Nat → Nat → Prop} {w : World} {obs : List Ob} {V : Nat → Value} {T : TypeId → Option TI}

theorem ops_ok {tmps : List AV} {vs : List Value} {a : Act} (ha : a.tmps = vs.toArray) (h : RepAs S w obs V tmps vs) (x : Operand) (hp : opo tmps x) : RepA S w obs V (ops tmps x) (a.eval x) := by
  have := opv_ok ha h x
  unfold opo at hp
  unfold ops
  split at hp
  · rename_i b y e
    rw [e] at this
    exact this.1 hp
  · exact this
theorem opsO_ok {tmps : List AV} {vs : List Value} {a : Act} (ha : a.tmps = vs.toArray) (h : RepAs S w obs V tmps vs) {lo : Option Operand} (hp : ∀ y, lo = some y → opo tmps y) :
    RepO S w obs V (lo.map (ops tmps)) (lo.map a.eval) := by
  cases lo with
  | none => rfl
  | some y => exact ⟨_, rfl, ops_ok ha h y (hp y rfl)⟩
theorem szB_ok {x : AV} {sz : Nat} (h : szB obs x sz = true) : ∀ d, slOf obs x = some d → d.isSl = true → d.sz = sz := by
  intro d hd hs
  unfold szB at h
  rw [hd] at h
  simpa [hs] using h

theorem sliceD_ok {t : TypeId} {i : TI} (hT : TOk P t i) {sz : Nat} (hs : ∀ w, (sizeOf i.elem).run P w = .ok sz w) {x : AV} {lo hi : Option AV} {v : Value} {lv hv : Option Value}
    (hsz : ∀ d, slOf obs x = some d → d.isSl = true → d.sz = sz) (hx : RepA S w obs V x v) (hl : RepO S w obs V lo lv) (hh : RepO S w obs V hi hv) {p : Prop} {r : AV}
    (h : sliceD i x lo hi = some (p, r)) (hp : p) : Pure1 P S w obs V (Instr.sliceAt t v lv hv none) r := by
  unfold sliceD at h
  split at h
  · rename_i d
    split at h
    · rename_i hd0
      obtain ⟨hd, hk⟩ := hd0
      obtain ⟨ht, _⟩ := hT.slct hk
      split at h
      · rename_i l h' hla hha
        have nl := natA_ok hla hl
        have nh := natA_ok hha hh
        simp only [Option.some.injEq, Prod.mk.injEq] at h
        obtain ⟨rfl, rfl⟩ := h
        have hz : d.sz = sz := hsz d (by cases d <;> first | rfl | simp [Dt.isSl] at hd) hd
        obtain ⟨hm, A, c', rfl, hc, hcell⟩ := Rep.slice hd hx
        exact ⟨_, run_sliceAt ht (hs w) hc nl nh hp.1 hp.2.1 hp.2.2, rep_sub hd hz hx (by omega) (by omega)⟩
      · cases h
    · cases h
  · cases h
/-- The operation does this and no more. -/
def PureN (P : Program) (S : Nat → Nat → Prop) (w : World) (obs : List Ob) (V : Nat → Value) (s : Sem Next) (x : AV) : Prop :=
  ∃ v, s.run P w = .ok (.value v) w ∧ RepA S w obs V x v
theorem PureN.of {s : Sem Value} {x : AV} (h : Pure1 P S w obs V s x) : PureN P S w obs V (do pure (.value (← s))) x := by
  obtain ⟨v, h1, h2⟩ := h
  exact ⟨v, by simp [Sem.run_bind, h1, go_sem], h2⟩

theorem run_slice_nil {P : Program} {w : World} {t e : TypeId} (ht : P.underlying t = some (.slice e)) (d : Nat) (a : Addr) (n c : Nat) : (Op.equalIn (d + 1) t (.slice (some a) n c) (.slice none 0 0)).run P w = .ok false w := by
  simp [Op.equalIn, run_underlying ht]
theorem run_eql_nil {P : Program} {w : World} {t e : TypeId} (ht : P.underlying t = some (.slice e)) (a : Addr) (n c : Nat) : (binOp .eql t (.slice (some a) n c) (.slice none 0 0)).run P w = .ok (.bool false) w := by
  have h := run_slice_nil (w := w) ht 9999 a n c
  simp only [binOp]
  simp only [Op.equal, Op.maxDepth, Sem.run_bind]
  rw [h]; rfl
theorem run_neq_nil {P : Program} {w : World} {t e : TypeId} (ht : P.underlying t = some (.slice e)) (a : Addr) (n c : Nat) : (binOp .neq t (.slice (some a) n c) (.slice none 0 0)).run P w = .ok (.bool true) w := by
  have h := run_slice_nil (w := w) ht 9999 a n c
  simp only [binOp]
  simp only [Op.equal, Op.maxDepth, Sem.run_bind]
  rw [h]; rfl
theorem pureOp_ok (hT : TabOk P T) (hst : St F.w0 F.X F.S0 obs V S w) {tmps : List AV} {vs : List Value} {a : Act} (ha : a.tmps = vs.toArray) (htm : RepAs S w obs V tmps vs) (o : Oper)
    {p : Prop} {r : AV} (h : pureOp T o.op tmps obs = some (p, r)) (hp : p) : PureN P S w obs V (execOp a.eval o) r := by
  have OK := fun x hx => ops_ok ha htm x hx
  unfold pureOp at h
  unfold execOp
  cases ho : o.op <;> rw [ho] at h <;> simp only at h ⊢ <;> try (cases h; done)
  case move x =>
    simp only [Option.some.injEq, Prod.mk.injEq] at h; obtain ⟨rfl, rfl⟩ := h
    exact ⟨_, rfl, OK x hp⟩
  case assign x =>
    simp only [Option.some.injEq, Prod.mk.injEq] at h; obtain ⟨rfl, rfl⟩ := h
    exact ⟨_, rfl, OK x hp⟩
  case pick c x y =>
    split at h
    · rename_i q r' hq
      simp only [Option.some.injEq, Prod.mk.injEq] at h; obtain ⟨rfl, rfl⟩ := h
      obtain ⟨b, h1, h2⟩ := pickA_ok (OK c hp.1) (opv_ok ha htm x) (opv_ok ha htm y) hq hp.2
      exact ⟨_, by rw [h1]; rfl, h2⟩
    · cases h
  case build t parts =>
    split at h
    · rename_i i hi
      exact .of (buildA_ok hst (hT.ok _ _ hi) ha htm h)
    · cases h
  case load t x =>
    split at h
    · rename_i i hi
      split at h
      · rename_i q r' hq
        simp only [Option.some.injEq, Prod.mk.injEq] at h; obtain ⟨rfl, rfl⟩ := h
        exact .of (loadA_ok hst (hT.ok _ _ hi) (OK x hp.1) hq)
      · cases h
    · cases h
  case nilCheck x =>
    split at h
    · rename_i q r' hq
      simp only [Option.some.injEq, Prod.mk.injEq] at h; obtain ⟨rfl, rfl⟩ := h
      have hx := OK x hp.1
      unfold nilCheckA at hq
      split at hq <;> simp only [Option.some.injEq, Prod.mk.injEq, reduceCtorEq] at hq <;> obtain ⟨-, rfl⟩ := hq
      · rename_i e; rw [e] at hx
        have hx2 := hx
        obtain ⟨_, g, _, hv⟩ := hx
        rw [hv] at hx2 ⊢
        exact ⟨_, rfl, hx2⟩
      · rename_i e; rw [e] at hx
        have hx2 := hx
        obtain ⟨b, g, hv, _⟩ := hx
        rw [hv] at hx2 ⊢
        exact ⟨_, rfl, hx2⟩
      · rename_i e; rw [e] at hx
        have hx2 := hx
        obtain ⟨vs', hv, _⟩ := hx
        rw [hv] at hx2 ⊢
        exact ⟨_, rfl, hx2⟩
    · cases h
  case binOp op t x y yt =>
    split at h
    · rename_i q r' hq
      have main : ∀ (hb : ∀ b, ops tmps y = .d (.v (.bool b)) → P.underlying t = some .bool), (opo tmps x ∧ opo tmps y) ∧ q → PureN P S w obs V (do pure (.value (← (do eqGuard op t x y (a.eval x) (a.eval y); binOp op t (a.eval x) (a.eval y))))) r' := fun hb hp =>
        .of (binA_ok hb (OK x hp.1.1) (OK y hp.1.2) hq hp.2)
      split at h
      · rename_i e
        split at h
        · rename_i i hi
          split at h
          · rename_i hk
            simp only [Option.some.injEq, Prod.mk.injEq] at h; obtain ⟨rfl, rfl⟩ := h
            exact main (fun b _ => (hT.ok _ _ hi).bool hk) hp
          · cases h
        · cases h
      · rename_i hne
        simp only [Option.some.injEq, Prod.mk.injEq] at h; obtain ⟨rfl, rfl⟩ := h
        exact main (fun b e => (hne b e).elim) hp
    · split at h
      · rename_i i hi
        split at h
        · rename_i q r' hq
          simp only [Option.some.injEq, Prod.mk.injEq] at h; obtain ⟨rfl, rfl⟩ := h
          have hx := OK x hp.1.1
          have hy := OK y hp.1.2
          have ti := hT.ok _ _ hi
          refine .of ?_
          unfold binG at hq
          split at hq
          · rename_i he
            obtain ⟨g1, g2⟩ := ti.eq1 he
            split at hq
            · rename_i a' s' b' r'' e1 e2
              rw [e1] at hx; rw [e2] at hy
              obtain ⟨vs1, hv1, u1, r1, rfl, p1, u2, r2, rfl, p2, rfl⟩ := hx
              obtain ⟨vs2, hv2, u3, r3, rfl, p3, u4, r4, rfl, p4, rfl⟩ := hy
              have q1 := Rep.scalar p1; have q2 := Rep.scalar p2; have q3 := Rep.scalar p3; have q4 := Rep.scalar p4
              subst q1; subst q2; subst q3; subst q4
              rw [hv1, hv2]
              have hg := run_eqGuard_agg (P := P) w op t x y #[.int .i64 a', .string s'] #[.int .i64 b', .string r''] g1
              cases op <;> simp only [Option.some.injEq, Prod.mk.injEq, reduceCtorEq] at hq <;> obtain ⟨-, rfl⟩ := hq
              · refine ⟨_, ?_, Rep.v _ rfl⟩
                simp only [Sem.run_bind, hg, Result.andThen_ok, run_eql_struct, g2]
              · refine ⟨_, ?_, Rep.v _ rfl⟩
                simp only [Sem.run_bind, hg, Result.andThen_ok, run_neq_struct, g2]
            · cases hq
          · split at hq
            · rename_i he
              obtain ⟨g1, g2⟩ := ti.eq2 he
              split at hq
              · rename_i a' s' b' r'' e1 e2
                rw [e1] at hx; rw [e2] at hy
                obtain ⟨vs1, hv1, u1, r1, rfl, p1, u2, r2, rfl, p2, rfl⟩ := hx
                obtain ⟨vs2, hv2, u3, r3, rfl, p3, u4, r4, rfl, p4, rfl⟩ := hy
                have q1 := Rep.scalar p1; have q2 := Rep.scalar p2; have q3 := Rep.scalar p3; have q4 := Rep.scalar p4
                subst q1; subst q2; subst q3; subst q4
                rw [hv1, hv2]
                have hg := run_eqGuard_agg (P := P) w op t x y #[.int .i64 a', .int .i64 s'] #[.int .i64 b', .int .i64 r''] g1
                cases op <;> simp only [Option.some.injEq, Prod.mk.injEq, reduceCtorEq] at hq <;> obtain ⟨-, rfl⟩ := hq
                · refine ⟨_, ?_, Rep.v _ rfl⟩
                  simp only [Sem.run_bind, hg, Result.andThen_ok, run_eql_struct, g2]
                · refine ⟨_, ?_, Rep.v _ rfl⟩
                  simp only [Sem.run_bind, hg, Result.andThen_ok, run_neq_struct, g2]
              · cases hq
            · split at hq
              · rename_i hk3
                obtain ⟨ht, _⟩ := ti.slct hk3
                split at hq
                · rename_i d e1 e2
                  rw [e1] at hx; rw [e2] at hy
                  have q2 := Rep.scalar hy
                  split at hq
                  · rename_i hd
                    obtain ⟨_, A, c, hv, _, hce⟩ := Rep.slice hd hx
                    cases op <;> simp only [Option.some.injEq, Prod.mk.injEq, reduceCtorEq] at hq <;> obtain ⟨rfl, rfl⟩ := hq
                    · obtain ⟨b, o, rfl, _⟩ := hce hp.2
                      refine ⟨_, ?_, Rep.v _ rfl⟩
                      rw [hv, q2]
                      have hg : (eqGuard .eql t x y (.slice (some ⟨b, o, none⟩) d.len c) (.slice none 0 0)).run P w = .ok () w := rfl
                      simp only [Sem.run_bind, hg, Result.andThen_ok, run_eql_nil ht]
                    · obtain ⟨b, o, rfl, _⟩ := hce hp.2
                      refine ⟨_, ?_, Rep.v _ rfl⟩
                      rw [hv, q2]
                      have hg : (eqGuard .neq t x y (.slice (some ⟨b, o, none⟩) d.len c) (.slice none 0 0)).run P w = .ok () w := rfl
                      simp only [Sem.run_bind, hg, Result.andThen_ok, run_neq_nil ht]
                  · cases hq
                · cases hq
              · cases hq
        · cases h
      · cases h
  case unOp op t x =>
    split at h
    · rename_i q r' hq
      simp only [Option.some.injEq, Prod.mk.injEq] at h; obtain ⟨rfl, rfl⟩ := h
      exact .of (unA_ok (OK x hp.1) hq)
    · cases h
  case convert src dst x =>
    split at h
    · rename_i i j hi hj
      split at h
      · rename_i q r' hq
        simp only [Option.some.injEq, Prod.mk.injEq] at h; obtain ⟨rfl, rfl⟩ := h
        refine .of (convA_ok hst (hT.ok _ _ hi) (hT.ok _ _ hj) (fun hk ha => ?_) (OK x hp.1) hq)
        obtain ⟨_, _, _, _, hb⟩ := hT.sl _ _ hi hk; exact hb ha
      · cases h
    · cases h
  case fieldAddr s x f =>
    split at h
    · rename_i i hi
      split at h
      · rename_i q r' hq
        simp only [Option.some.injEq, Prod.mk.injEq] at h; obtain ⟨rfl, rfl⟩ := h
        exact .of (fieldA_ok (hT.ok _ _ hi) (OK x hp.1) hq)
      · cases h
    · cases h
  case indexAddr t x y =>
    split at h
    · rename_i i hi
      split at h
      · rename_i ie hie
        split at h
        · rename_i hsz
          split at h
          · rename_i q r' hq
            simp only [Option.some.injEq, Prod.mk.injEq] at h; obtain ⟨rfl, rfl⟩ := h
            exact .of (indexA_ok hst (hT.ok _ _ hi) (fun w => (hT.ok _ _ hie).run_size) (szB_ok hsz) (OK x hp.1.1) (OK y hp.1.2) hq hp.2)
          · cases h
        · cases h
      · cases h
    · cases h
  case index t x y =>
    split at h
    · rename_i i hi
      split at h
      · rename_i hk
        split at h
        · rename_i q r' hq
          simp only [Option.some.injEq, Prod.mk.injEq] at h; obtain ⟨rfl, rfl⟩ := h
          exact .of (indexStr_ok ((hT.ok _ _ hi).str hk) (OK x hp.1.1) (OK y hp.1.2) hq hp.2)
        · cases h
      · cases h
    · cases h
  case extract x ix =>
    split at h
    · rename_i q r' hq
      simp only [Option.some.injEq, Prod.mk.injEq] at h; obtain ⟨rfl, rfl⟩ := h
      exact .of (extractA_ok (OK x hp.1) hq)
    · cases h
  case slice t x lo hi mx =>
    cases mx with
    | some m => cases h
    | none =>
      simp only at h
      split at h
      · rename_i i hi
        split at h
        · rename_i hk
          split at h
          · rename_i q r' hq
            simp only [Option.some.injEq, Prod.mk.injEq] at h; obtain ⟨rfl, rfl⟩ := h
            exact .of (sliceStr_ok ((hT.ok _ _ hi).str hk) (OK x hp.1.1) (opsO_ok ha htm hp.1.2.1) (opsO_ok ha htm hp.1.2.2) hq hp.2)
          · cases h
        · split at h
          · rename_i ie hie
            split at h
            · rename_i hsz
              split at h
              · rename_i q r' hq
                simp only [Option.some.injEq, Prod.mk.injEq] at h; obtain ⟨rfl, rfl⟩ := h
                exact .of (sliceD_ok (hT.ok _ _ hi) (fun w => (hT.ok _ _ hie).run_size) (szB_ok hsz) (OK x hp.1.1) (opsO_ok ha htm hp.1.2.1) (opsO_ok ha htm hp.1.2.2) hq hp.2)
              · cases h
            · cases h
          · cases h
      · cases h
  case makeFunc fn first captured =>
    cases fn <;> simp only at h <;> try (cases h; done)
    rename_i f
    split at h
    · rename_i he
      simp only [Option.some.injEq, Prod.mk.injEq] at h; obtain ⟨rfl, rfl⟩ := h
      have hf : first = #[] := by
        have : first.toList = [] := by simpa using he
        simpa using this
      subst hf
      refine .of ⟨.func (.func f) #[] (captured.map a.eval), by simp only [Instr.makeFunc, Sem.run_pure, List.map_toArray, List.map_nil], (captured.map a.eval).toList, by rw [Array.toArray_toList], ?_⟩
      refine RepAs.of_get (by simp) (fun j x v hx hv => ?_)
      rw [Array.toList_map] at hv
      rw [List.getElem?_map] at hx hv
      cases hp : captured.toList[j]? with
      | none => rw [hp] at hx; cases hx
      | some q =>
        rw [hp] at hx hv
        simp only [Option.map_some, Option.some.injEq] at hx hv
        subst hx; subst hv
        exact opv_ok ha htm q
    · cases h
  case call c =>
    obtain ⟨callee, args, argTypes⟩ := c
    cases callee <;> simp only at h <;> try (cases h; done)
    rename_i b
    cases b <;> simp only at h <;> try (cases h; done)
    case len =>
      split at h
      · rename_i x t hx ht
        have hxa : args = #[x] := Array.toList_inj.1 hx
        have hta : argTypes = #[t] := Array.toList_inj.1 ht
        subst hxa; subst hta
        split at h
        · rename_i i hi
          split at h
          · rename_i q r' hq
            simp only [Option.some.injEq, Prod.mk.injEq] at h; obtain ⟨rfl, rfl⟩ := h
            obtain ⟨v, h1, h2⟩ := lenA_ok hst (hT.ok _ _ hi) o.type (OK x hp.1) hq
            refine ⟨v, ?_, h2⟩
            simp only [resolve, invoke, builtin, List.map_toArray, List.map_cons, List.map_nil, Sem.run_bind, Sem.run_pure, Result.andThen_ok, h1]
          · cases h
        · cases h
      · cases h
    all_goals
      split at h
      · rename_i x y hx
        have hxa : args = #[x, y] := Array.toList_inj.1 hx
        subst hxa
        split at h
        · rename_i q r' hq
          simp only [Option.some.injEq, Prod.mk.injEq] at h; obtain ⟨rfl, rfl⟩ := h
          have h1 := OK x hp.1.1
          have h2 := OK y hp.1.2
          unfold minA at hq
          split at hq
          · rename_i k n k' m e1 e2
            simp only [Option.some.injEq, Prod.mk.injEq] at hq; obtain ⟨-, rfl⟩ := hq
            rw [e1] at h1; rw [e2] at h2
            have q1 := Rep.scalar h1; have q2 := Rep.scalar h2
            refine ⟨_, ?_, Rep.v _ rfl⟩
            simp only [resolve, invoke, builtin, Builtin.min_, Builtin.max_, List.map_toArray, List.map_cons, List.map_nil, q1, q2]
            rfl
          · cases hq
        · cases h
      · cases h
end
end Go.Proofs.YtlhfjjkoflpecaaAw

namespace Go.Proofs.YtlhfjjkoflpecaaAw
open Go.RowKit
set_option linter.unusedSimpArgs false
set_option linter.unusedVariables false

def objOp (T : TypeId → Option TI) (o : Op) (tmps : List AV) (obs : List Ob) : Option (Prop × AV × List Ob) :=
  match o with
  | .move x => some (True, opv tmps x, obs)
  | .assign x => some (True, opv tmps x, obs)
  | .alloc e =>
    match T e with
    | some i => some (True, .ptr obs.length 0, obs ++ [.box e (i.zero.map .d)])
    | none => none
  | .box e x =>
    match cellsOf (ops tmps x) with
    | some xs => if xs.all (leafB obs) = true then some (opo tmps x, .ptr obs.length 0, obs ++ [.box e xs]) else none
    | none => none
  | .buildSlice t len parts =>
    match T t with
    | some i =>
      match T i.elem with
      | some ie => if i.nil.sz = ie.size then buildSliceA i ie.size obs tmps len parts.toList else none
      | none => none
    | none => none
  | .store t a x =>
    match T t with
    | some i =>
      match storeA i obs (ops tmps a) (ops tmps x) with
      | some (p, obs') => some ((opo tmps a ∧ opo tmps x) ∧ p, .dead, obs')
      | none =>
        match storeR i obs (ops tmps a) (ops tmps x) with
        | some (p, obs') => some ((opo tmps a ∧ opo tmps x) ∧ p, .dead, obs')
        | none => none
    | none => none
  | .makeSlice t l c =>
    match T t with
    | some i =>
      match T i.elem with
      | some ie =>
        match makeA i ie.bytes obs (ops tmps l) (ops tmps c) with
        | some (p, r, obs') => some ((opo tmps l ∧ opo tmps c) ∧ p, r, obs')
        | none => none
      | none => none
    | none => none
  | .slice t x lo hi none =>
    match T t with
    | some i =>
      if i.kind = 3 then
        match T i.elem with
        | some ie =>
          if szB obs (ops tmps x) ie.size = true then
            match sliceA i obs (ops tmps x) (lo.map (ops tmps)) (hi.map (ops tmps)) with
            | some (p, r, obs') => some ((opo tmps x ∧ (∀ y, lo = some y → opo tmps y) ∧ (∀ y, hi = some y → opo tmps y)) ∧ p, r, obs')
            | none => none
          else none
        | none => none
      else
        match pureOp T o tmps obs with
        | some (p, r) => some (p, r, obs)
        | none => none
    | none => none
  | .slice t x none (some (.const (.int _ 0))) (some (.const (.int _ 0))) =>
    match T t with
    | some i =>
      if i.kind = 3 then
        match slOf obs (ops tmps x) with
        | some _ => some (opo tmps x, .row obs.length 0, obs ++ [.row i.elem i.nil 0])
        | none => none
      else none
    | none => none
  | .call c =>
    match c.callee with
    | .builtin .append =>
      match c.args.toList, c.argTypes.toList with
      | [s, x], [t, t'] =>
        if t = t' then
          match T t with
          | some i =>
            match T i.elem with
            | some ie =>
              match appendA i ie.size ie.bytes obs (ops tmps s) (ops tmps x) with
              | some (p, r, obs') => some ((opo tmps s ∧ opo tmps x) ∧ p, r, obs')
              | none => none
            | none => none
          | none => none
        else none
      | _, _ => none
    | _ =>
      match pureOp T o tmps obs with
      | some (p, r) => some (p, r, obs)
      | none => none
  | o =>
    match pureOp T o tmps obs with
    | some (p, r) => some (p, r, obs)
    | none => none

def OutN (P : Program) (F : Fr) (obs : List Ob) (V : Nat → Value) (S : Nat → Nat → Prop) (w : World) (s : Sem Next) (x : AV) (obs' : List Ob) : Prop :=
  ∃ n v w' V' S', s.run P w = .ok n w' ∧ (n = .value v ∨ (n = .skip ∧ v = undef)) ∧ St F.w0 F.X F.S0 obs' V' S' w' ∧ Mov S w obs V S' w' obs' V' ∧ RepA S' w' obs' V' x v

section
variable {P : Program} {F : Fr} {S : Nat → Nat → Prop} {w : World} {obs : List Ob} {V : Nat → Value} {T : TypeId → Option TI}
theorem OutN.of {s : Sem Value} {x : AV} {obs' : List Ob} (h : Out P F obs V S w s x obs') : OutN P F obs V S w (do pure (.value (← s))) x obs' := by
  obtain ⟨v, w', V', S', h1, h2, h3, h4⟩ := h
  exact ⟨_, v, w', V', S', by simp [Sem.run_bind, h1, go_sem], .inl rfl, h2, h3, h4⟩
theorem OutN.ofN {s : Sem Next} {x : AV} (hst : St F.w0 F.X F.S0 obs V S w) (h : PureN P S w obs V s x) : OutN P F obs V S w s x obs := by
  obtain ⟨v, h1, h2⟩ := h
  exact ⟨_, v, w, V, S, h1, .inl rfl, hst, Mov.refl _ _ _ _, h2⟩
theorem OutN.unit {s : Sem Unit} {obs' : List Ob} (h : ∃ w' V' S', s.run P w = .ok () w' ∧ St F.w0 F.X F.S0 obs' V' S' w' ∧ Mov S w obs V S' w' obs' V') : OutN P F obs V S w (do s; pure .skip) .dead obs' := by
  obtain ⟨w', V', S', h1, h2, h3⟩ := h
  exact ⟨.skip, undef, w', V', S', by simp [Sem.run_bind, h1, go_sem], .inr ⟨rfl, rfl⟩, h2, h3, trivial⟩

theorem run_slice00 {t e : TypeId} {A : Option Addr} {n c : Nat} {sz : Nat} {k k' : IntKind} (ht : P.underlying t = some (.slice e)) (hs : (sizeOf e).run P w = .ok sz w) :
    ∃ A', (Instr.sliceAt t (.slice A n c) none (some (.int k 0)) (some (.int k' 0))).run P w = .ok (.slice A' 0 0) w := by
  exact ⟨_, by simp [Instr.sliceAt, Instr.slice, Instr.sliceBounds, Instr.sliceBound, asIntOf, run_underlying ht, hs, go_sem]; rfl⟩

theorem objOp_ok (hT : TabOk P T) (hst : St F.w0 F.X F.S0 obs V S w) {tmps : List AV} {vs : List Value} {a : Act} (ha : a.tmps = vs.toArray) (htm : RepAs S w obs V tmps vs) (o : Oper)
    {p : Prop} {r : AV} {obs' : List Ob} (h : objOp T o.op tmps obs = some (p, r, obs')) (hp : p) : OutN P F obs V S w (execOp a.eval o) r obs' := by
  have OK := fun x hx => ops_ok ha htm x hx
  have rest : (match pureOp T o.op tmps obs with | some (p, r) => some (p, r, obs) | none => none) = some (p, r, obs') → OutN P F obs V S w (execOp a.eval o) r obs' := fun h => by
    split at h
    · rename_i q r' hq
      simp only [Option.some.injEq, Prod.mk.injEq] at h; obtain ⟨rfl, rfl, rfl⟩ := h
      exact .ofN hst (pureOp_ok hT hst ha htm o hq hp)
    · cases h
  cases ho : o.op
  case move x =>
    rw [ho] at h; simp only [objOp, Option.some.injEq, Prod.mk.injEq] at h; obtain ⟨rfl, rfl, rfl⟩ := h
    exact .ofN hst ⟨a.eval x, by simp [execOp, ho, go_sem], opv_ok ha htm x⟩
  case assign x =>
    rw [ho] at h; simp only [objOp, Option.some.injEq, Prod.mk.injEq] at h; obtain ⟨rfl, rfl, rfl⟩ := h
    exact .ofN hst ⟨a.eval x, by simp [execOp, ho, go_sem], opv_ok ha htm x⟩
  case alloc e =>
    rw [ho] at h; simp only [objOp] at h
    split at h
    · rename_i i hi
      simp only [Option.some.injEq, Prod.mk.injEq] at h; obtain ⟨rfl, rfl, rfl⟩ := h
      have := OutN.of (out_alloc hst (hT.ok _ _ hi) (.tuple #[]))
      unfold execOp; rw [ho]; exact this
    · cases h
  case box e x =>
    rw [ho] at h; simp only [objOp] at h
    split at h
    · rename_i xs hxs
      split at h
      · rename_i hall
        simp only [Option.some.injEq, Prod.mk.injEq] at h; obtain ⟨rfl, rfl, rfl⟩ := h
        have := OutN.of (P := P) (out_box hst e (OK x hp) hxs hall)
        unfold execOp; rw [ho]; exact this
      · cases h
    · cases h
  case buildSlice t len parts =>
    rw [ho] at h; simp only [objOp] at h
    split at h
    · rename_i i hi
      split at h
      · rename_i ie hie
        split at h
        · rename_i hsz
          have := OutN.of (buildSliceA_ok hst (hT.ok _ _ hi) (hT.ok _ _ hie) hsz ha htm h)
          unfold execOp; rw [ho]; exact this
        · cases h
      · cases h
    · cases h
  case store t x y =>
    rw [ho] at h; simp only [objOp] at h
    split at h
    · rename_i i hi
      split at h
      · rename_i q obs1 hq
        simp only [Option.some.injEq, Prod.mk.injEq] at h; obtain ⟨rfl, rfl, rfl⟩ := h
        have := OutN.unit (out_store hst (hT.ok _ _ hi) (OK x hp.1.1) (OK y hp.1.2) hq)
        unfold execOp; rw [ho]; exact this
      · split at h
        · rename_i q obs1 hq
          simp only [Option.some.injEq, Prod.mk.injEq] at h; obtain ⟨rfl, rfl, rfl⟩ := h
          have := OutN.unit (out_storeR hst (hT.ok _ _ hi) (OK x hp.1.1) (OK y hp.1.2) hq)
          unfold execOp; rw [ho]; exact this
        · cases h
    · cases h
  case makeSlice t l c =>
    rw [ho] at h; simp only [objOp] at h
    split at h
    · rename_i i hi
      split at h
      · rename_i ie hie
        split at h
        · rename_i q r' obs1 hq
          simp only [Option.some.injEq, Prod.mk.injEq] at h; obtain ⟨rfl, rfl, rfl⟩ := h
          have hk : i.kind = 3 := by unfold makeA at hq; split at hq; · assumption
                                     · cases hq
          obtain ⟨ie', he', hsz, hze, _⟩ := hT.sl _ _ hi hk
          rw [hie] at he'; simp only [Option.some.injEq] at he'; subst he'
          have := OutN.of (makeA_ok hst (hT.ok _ _ hi) (hT.ok _ _ hie) hsz hze (OK l hp.1.1) (OK c hp.1.2) hq hp.2)
          unfold execOp; rw [ho]; exact this
        · cases h
      · cases h
    · cases h
  case slice t x lo hi mx =>
    rw [ho] at h
    cases mx with
    | none =>
      simp only [objOp] at h
      split at h
      · rename_i i hti
        split at h
        · rename_i hk
          split at h
          · rename_i ie hie
            split at h
            · rename_i hsz
              split at h
              · rename_i q r' obs1 hq
                simp only [Option.some.injEq, Prod.mk.injEq] at h; obtain ⟨rfl, rfl, rfl⟩ := h
                have := OutN.of (sliceA_ok hst (hT.ok _ _ hti) (fun w => (hT.ok _ _ hie).run_size) (szB_ok hsz) (OK x hp.1.1) (opsO_ok ha htm hp.1.2.1) (opsO_ok ha htm hp.1.2.2) hq hp.2)
                unfold execOp; rw [ho]; exact this
              · cases h
            · cases h
          · cases h
        · rw [← ho] at h; exact rest h
      · cases h
    | some m =>
      unfold objOp at h
      split at h <;> try (rename_i e; cases e; done)
      · rename_i t' x' k k' e
        simp only [Op.slice.injEq, Option.some.injEq] at e
        obtain ⟨rfl, rfl, rfl, rfl, rfl⟩ := e
        split at h
        · rename_i i hti
          split at h
          · rename_i hk
            split at h
            · rename_i d hd
              simp only [Option.some.injEq, Prod.mk.injEq] at h; obtain ⟨rfl, rfl, rfl⟩ := h
              obtain ⟨ht, hn1, hn2⟩ := (hT.ok _ _ hti).slct hk
              obtain ⟨ie, hie, _⟩ := hT.sl _ _ hti hk
              obtain ⟨A, c, hv, _⟩ := slOf_ok hst (OK x hp) hd
              obtain ⟨A', hrun⟩ := run_slice00 (P := P) (w := w) (A := A) (n := d.len) (c := c) (k := k) (k' := k') ht ((hT.ok _ _ hie).run_size)
              obtain ⟨V1, b1, b2, b3, b4⟩ := hst.noRow i.elem hn1 hn2 A'
              have := OutN.of (P := P) (s := Instr.sliceAt t (a.eval x) none (some (.int k 0)) (some (.int k' 0))) ⟨_, w, V1, S, by rw [hv]; exact hrun, b1, b2, b3⟩
              unfold execOp; rw [ho]; exact this
            · cases h
          · cases h
        · cases h
      · rw [← ho] at h; exact rest h
  case call c =>
    rw [ho] at h
    simp only [objOp] at h
    split at h
    · rename_i hcal
      split at h
      · rename_i s x t t' hx ht
        split at h
        · rename_i htt
          subst htt
          split at h
          · rename_i i hi
            split at h
            · rename_i ie hie
              split at h
              · rename_i q r' obs1 hq
                simp only [Option.some.injEq, Prod.mk.injEq] at h; obtain ⟨rfl, rfl, rfl⟩ := h
                obtain ⟨callee, args, argTypes⟩ := c
                simp only at hcal hx ht
                subst hcal
                have hxa : args = #[s, x] := Array.toList_inj.1 hx
                have hta : argTypes = #[t, t] := Array.toList_inj.1 ht
                subst hxa; subst hta
                have hk : i.kind = 3 := by
                  unfold appendA at hq
                  split at hq
                  · assumption
                  · cases hq
                obtain ⟨ie', he', hsz, _⟩ := hT.sl _ _ hi hk
                rw [hie] at he'; simp only [Option.some.injEq] at he'; subst he'
                have := OutN.of (appendA_ok hst (hT.ok _ _ hi) (hT.ok _ _ hie) hsz o.type (OK s hp.1.1) (OK x hp.1.2) hq hp.2)
                obtain ⟨n, v, w', V', S', h1, h2⟩ := this
                refine ⟨n, v, w', V', S', ?_, h2⟩
                unfold execOp; rw [ho]
                simp only [resolve, invoke, builtin, List.map_toArray, List.map_cons, List.map_nil, Sem.run_bind, Sem.run_pure, Result.andThen_ok] at h1 ⊢
                exact h1
              · cases h
            · cases h
          · cases h
        · cases h
      · cases h
    · rw [← ho] at h; exact rest h
  all_goals (rw [ho] at h; simp only [objOp] at h; rw [← ho] at h; exact rest h)
end
end Go.Proofs.YtlhfjjkoflpecaaAw

namespace Go.Proofs.YtlhfjjkoflpecaaAw
open Go.RowKit
set_option linter.unusedSimpArgs false
set_option linter.unusedVariables false

inductive AExit where
  | normal
  | exit (id : Nat)
  | ret

def liftQ (F : Fr) (Q : AExit → AS → Prop) : Exit → Act → World → Prop
  | .normal, a, w => ∃ α, Rel F α a w ∧ Q .normal α
  | .exit id, a, w => ∃ α, Rel F α a w ∧ Q (.exit id) α
  | .ret, a, w => ∃ α, Rel F α a w ∧ Q .ret α
  | _, _, _ => False

/-- A region's operations from here on. -/
def AL (P : Program) (F : Fr) (os : Array Oper) (Q : AExit → AS → Prop) (rest : List Oper) (α : AS) : Prop :=
  ∀ a w, Rel F α a w → wpList P os (liftQ F Q) rest a w
def AW (P : Program) (F : Fr) (c : Code) (Q : AExit → AS → Prop) (α : AS) : Prop :=
  ∀ a w, Rel F α a w → c.wp P (liftQ F Q) a w

def putT (tmps : List AV) (d : Option Tmp) (x : AV) : List AV :=
  match d with
  | some d => tmps.set d x
  | none => tmps

def guardB (os : List Oper) (tmps : List AV) (g : Option (Nat × Bool)) : Option (Option Bool) :=
  match g with
  | none => some none
  | some (j, want) =>
    match (os[j]?).bind (·.dst) with
    | some d =>
      match tmps.getD d .dead with
      | .d (.v (.bool b)) => some (some (if want then b else !b))
      | .g c (.d (.v (.bool b))) => some (some (c && (if want then b else !b)))
      | _ => none
    | none => none

def stepK (T : TypeId → Option TI) (os : List Oper) (o : Oper) (α : AS) (K : AS → Prop) : Prop :=
  match guardB os α.tmps o.guard with
  | some none =>
    match objOp T o.op α.tmps α.obs with
    | some (p, x, obs') => p ∧ K ⟨putT α.tmps o.dst x, obs'⟩
    | none => False
  | some (some G) =>
    match pureOp T o.op α.tmps α.obs with
    | some (p, x) => (G = true → p) ∧ K ⟨putT α.tmps o.dst (.g G x), α.obs⟩
    | none => False
  | none => False

section
variable {P : Program} {F : Fr} {T : TypeId → Option TI}

theorem Kpt.mov {S S' : Nat → Nat → Prop} {w w' : World} {obs obs' : List Ob} {V V' : Nat → Value} (h : Kpt F obs.length V) (m : Mov S w obs V S' w' obs' V') : Kpt F obs'.length V' := by
  have hl : ∀ o, o < obs.length → o < obs'.length := fun o ho => (m (.row o 0) (V o) ⟨ho, fun k0 _ => ⟨Nat.zero_le _, fun _ => rfl⟩⟩).1
  refine ⟨?_, fun o g ho hv => ?_⟩
  · rcases Nat.eq_zero_or_pos F.n0 with h0 | h0
    · omega
    · have := hl (F.n0 - 1) (by have := h.1; omega); omega
  · obtain ⟨_, g', h1, h2⟩ := m (.ptr o 0) (.pointer (some ⟨g, 0, none⟩)) ⟨Nat.lt_of_lt_of_le ho h.1, g, h.2 o g ho hv, rfl⟩
    simp only [Value.pointer.injEq, Option.some.injEq, Addr.mk.injEq, and_true] at h2
    rw [h1, ← h2]
theorem Rel.put {α : AS} {a : Act} {w' : World} {V : Nat → Value} {S : Nat → Nat → Prop} {obs : List Ob} {tmps : List AV} {vs : List Value} (hst : St F.w0 F.X F.S0 obs V S w') (hd : a.defers = []) (ha : a.tmps = vs.toArray)
    (htm : RepAs S w' obs V tmps vs) (hk : Kpt F obs.length V) (d : Option Tmp) {x : AV} {v : Value} (hx : RepA S w' obs V x v) : Rel F ⟨putT tmps d x, obs⟩ (a.put d v) w' := by
  cases d with
  | none => exact ⟨V, S, vs, hst, hd, ha, htm, hk⟩
  | some d =>
    refine ⟨V, S, vs.set d v, hst, hd, ?_, RepAs.set htm d x v hx, hk⟩
    show a.tmps.setIfInBounds d v = _
    rw [ha]; simp

theorem guard_wanted {os : Array Oper} {S : Nat → Nat → Prop} {w : World} {obs : List Ob} {V : Nat → Value} {tmps : List AV} {vs : List Value} {a : Act} (ha : a.tmps = vs.toArray) (htm : RepAs S w obs V tmps vs) (o : Oper) :
    (guardB os.toList tmps o.guard = some none → Region.wanted o (yielded os a.tmps) = true) ∧ ∀ G, guardB os.toList tmps o.guard = some (some G) → Region.wanted o (yielded os a.tmps) = G := by
  unfold guardB Region.wanted
  cases hg : o.guard with
  | none => exact ⟨fun _ => rfl, fun G h => by simp at h⟩
  | some jw =>
    obtain ⟨j, want⟩ := jw
    simp only
    have hos : os.toList[j]? = os[j]? := by simp
    rw [hos]
    refine ⟨fun h => ?_, fun G h => ?_⟩
    · split at h
      · split at h <;> simp at h
      · cases h
    · split at h
      · rename_i d hd
        have hv : ∀ x, tmps.getD d .dead = x → (∀ y, x ≠ y ∨ True) → x ≠ .dead → ∃ v, vs[d]? = some v ∧ RepA S w obs V x v := by
          intro x hx _ hne
          cases ht : tmps[d]? with
          | none => rw [List.getD_eq_getElem?_getD, ht] at hx; exact absurd hx.symm hne
          | some y =>
            rw [List.getD_eq_getElem?_getD, ht] at hx
            simp only [Option.getD_some] at hx; subst hx
            exact RepAs.get htm d y ht
        have hy : ∀ v, vs[d]? = some v → yielded os a.tmps j = match v with | .bool b => some b | _ => none := by
          intro v hv
          unfold yielded
          rw [hd, ha]
          simp only [Option.bind_some, List.getElem?_toArray, hv]
          cases v <;> rfl
        split at h
        · rename_i b hb
          simp only [Option.some.injEq] at h
          obtain ⟨v, h1, h2⟩ := hv _ hb (fun _ => .inr trivial) (by simp)
          have := Rep.scalar h2; subst this
          rw [hy _ h1, ← h]
          cases want <;> cases b <;> rfl
        · rename_i c b hb
          simp only [Option.some.injEq] at h
          obtain ⟨v, h1, h2⟩ := hv _ hb (fun _ => .inr trivial) (by simp)
          rw [hy _ h1, ← h]
          cases c with
          | true =>
            have := Rep.scalar (h2.1 rfl); subst this
            cases want <;> cases b <;> rfl
          | false =>
            have := h2.2 rfl; subst this
            cases want <;> rfl
        · cases h
      · cases h

theorem AL.step (hT : TabOk P T) {os : Array Oper} {Q : AExit → AS → Prop} {rest : List Oper} {o : Oper} {α : AS} (h : stepK T os.toList o α (AL P F os Q rest)) : AL P F os Q (o :: rest) α := by
  intro a w hr
  obtain ⟨V, S, vs, hst, hd, ha, htm, hkp⟩ := hr
  obtain ⟨g1, g2⟩ := guard_wanted (os := os) ha htm o
  unfold stepK at h
  unfold wpList
  split at h
  · rename_i hg
    rw [if_pos (g1 hg)]
    split at h
    · rename_i p x obs' ho
      obtain ⟨n, v, w', V', S', h1, h2, h3, h4, h5⟩ := objOp_ok hT hst ha htm o ho h.1
      refine .inl ?_
      unfold Oper.wp
      rw [h1]
      have hr := Rel.put (α := α) (a := a) h3 hd ha (h4.all htm) (hkp.mov h4) o.dst h5
      rcases h2 with rfl | ⟨rfl, rfl⟩
      · exact h.2 _ _ hr
      · exact h.2 _ _ hr
    · exact h.elim
  · rename_i G hg
    rw [g2 G hg]
    split at h
    · rename_i p x ho
      cases G with
      | true =>
        rw [if_pos rfl]
        obtain ⟨v, h1, h5⟩ := pureOp_ok hT hst ha htm o ho (h.1 rfl)
        refine .inl ?_
        unfold Oper.wp
        rw [h1]
        exact h.2 _ _ (Rel.put (α := α) (a := a) hst hd ha htm hkp o.dst (x := .g true x) (v := v) (And.intro (fun _ => h5) (fun e => nomatch e)))
      | false =>
        rw [if_neg (by simp)]
        exact h.2 _ _ (Rel.put (α := α) (a := a) hst hd ha htm hkp o.dst (x := .g false x) (v := undef) (And.intro (fun e => nomatch e) (fun _ => rfl)))
    · exact h.elim
  · exact h.elim
theorem AL.nil {os : Array Oper} {Q : AExit → AS → Prop} {α : AS} (h : Q .normal α) : AL P F os Q [] α := fun a w hr => ⟨α, hr, h⟩

/-! ### Code -/
def thenQ (P : Program) (F : Fr) (c : Code) (Q : AExit → AS → Prop) : AExit → AS → Prop
  | .normal, α => AW P F c Q α
  | e, α => Q e α
def blockQ (id : Nat) (Q : AExit → AS → Prop) : AExit → AS → Prop
  | .exit i, α => if i = id then Q .normal α else Q (.exit i) α
  | e, α => Q e α

theorem AW.region {id : Nat} {l : List Oper} {Q : AExit → AS → Prop} {α : AS} (h : AL P F l.toArray Q l α) : AW P F (.region id l.toArray false) Q α := fun a w hr => wp_region_lit (h a w hr)
theorem AW.seq {x y : Code} {Q : AExit → AS → Prop} {α : AS} (h : AW P F x (thenQ P F y Q) α) : AW P F (.seq x y) Q α := fun a w hr => by
  refine wp_seq (Code.wp_mono (fun e a w q => ?_) (h a w hr))
  cases e with
  | normal => obtain ⟨β, h1, h2⟩ := q; exact h2 a w h1
  | exit id => exact q
  | ret => exact q
  | goto l => exact q.elim
  | panic c => exact q.elim
  | outgrown => exact q.elim
theorem AW.block {id : Nat} {c : Code} {Q : AExit → AS → Prop} {α : AS} (h : AW P F c (blockQ id Q) α) : AW P F (.block id c) Q α := fun a w hr => by
  refine wp_block (Code.wp_mono (fun e a w q => ?_) (h a w hr))
  cases e with
  | normal => exact q
  | exit i =>
    obtain ⟨β, h1, h2⟩ := q
    show if i = id then _ else _
    split
    · rename_i hi; simp only [blockQ, hi, if_true] at h2; exact ⟨β, h1, h2⟩
    · rename_i hi; simp only [blockQ, hi, if_false] at h2; exact ⟨β, h1, h2⟩
  | ret => exact q
  | goto l => exact q.elim
  | panic c => exact q.elim
  | outgrown => exact q.elim
theorem AW.cond {c : Operand} {x y : Code} {Q : AExit → AS → Prop} {α : AS} {b : Bool} (hc : opv α.tmps c = .d (.v (.bool b))) (ht : b = true → AW P F x Q α) (hf : b = false → AW P F y Q α) : AW P F (.cond c x y) Q α := fun a w hr => by
  have hr2 := hr
  obtain ⟨V, S, vs, hst, hd, ha, htm, hkp⟩ := hr
  have hv := opv_ok ha htm c
  rw [hc] at hv
  exact wp_cond_split (Rep.scalar hv) (fun h => ht h a w hr2) (fun h => hf h a w hr2)
theorem AW.skip {Q : AExit → AS → Prop} {α : AS} (h : Q .normal α) : AW P F .skip Q α := fun a w hr => wp_skip ⟨α, hr, h⟩
theorem AW.exit {id : Nat} {Q : AExit → AS → Prop} {α : AS} (h : Q (.exit id) α) : AW P F (.exit id) Q α := fun a w hr => wp_exit ⟨α, hr, h⟩
theorem AW.ret {Q : AExit → AS → Prop} {α : AS} (h : Q .ret α) : AW P F .ret Q α := fun a w hr => wp_ret ⟨α, hr, h⟩
theorem AW.mono {c : Code} {Q Q' : AExit → AS → Prop} {α : AS} (h : AW P F c Q α) (hq : ∀ e β, Q e β → Q' e β) : AW P F c Q' α := fun a w hr => by
  refine Code.wp_mono (fun e a w q => ?_) (h a w hr)
  cases e with
  | normal => obtain ⟨β, h1, h2⟩ := q; exact ⟨β, h1, hq _ _ h2⟩
  | exit id => obtain ⟨β, h1, h2⟩ := q; exact ⟨β, h1, hq _ _ h2⟩
  | ret => obtain ⟨β, h1, h2⟩ := q; exact ⟨β, h1, hq _ _ h2⟩
  | goto l => exact q.elim
  | panic c => exact q.elim
  | outgrown => exact q.elim

/-! ### Less is known -/
mutual
/-- It leads to no object from n on. -/
def AV.under (n : Nat) : AV → Bool
  | .row o _ => o < n
  | .ptr o _ => o < n
  | .rptr o _ _ _ => o < n
  | .agg xs => AV.underL n xs
  | .tup xs => AV.underL n xs
  | .fn _ xs => AV.underL n xs
  | .g _ x => AV.under n x
  | _ => true
def AV.underL (n : Nat) : List AV → Bool
  | [] => true
  | x :: xs => AV.under n x && AV.underL n xs
end
/-- What is known of x is known of y. -/
def LeV (n : Nat) (x y : AV) : Prop :=
  match y with
  | .dead => True
  | .d (.v (.int k' b)) => (match x with | .d (.v (.int k a)) => k' = k ∧ b = a | _ => False)
  | .d (.v (.bool b)) => (match x with | .d (.v (.bool a)) => b = a | _ => False)
  | .d (.v (.string b)) => (match x with | .d (.v (.string a)) => b = a | _ => False)
  | .d b => (match x with | .d a => b = a | _ => False)
  | .ptr o' f' => (match x with | .ptr o f => o' = o ∧ f' = f ∧ o < n | _ => False)
  | .row o' k' => (match x with | .row o k => o' = o ∧ k' = k ∧ o < n | _ => False)
  | y => y = x ∧ AV.under n x = true
def LeL (n : Nat) : List AV → List AV → Prop
  | [], [] => True
  | x :: xs, y :: ys => LeV n x y ∧ LeL n xs ys
  | _, _ => False
def LeB (n : Nat) (x y : Ob) : Prop :=
  match y with
  | .gone => True
  | .box t' cs' => (match x with | .box t cs => t' = t ∧ LeL n cs cs' | _ => False)
  | .row e' t' k' => (match x with | .row e t k => e' = e ∧ t' = t ∧ k' = k | _ => False)
  | .set t' k' => (match x with | .set t k => t' = t ∧ k' = k | _ => False)
def LeO (n : Nat) : List Ob → List Ob → Prop
  | _, [] => True
  | x :: xs, y :: ys => LeB n x y ∧ LeO n xs ys
  | [], _ :: _ => False
/-- α ≤ β: whatever α tells, β tells. -/
def Le (α β : AS) : Prop := LeL β.obs.length α.tmps β.tmps ∧ LeO β.obs.length α.obs β.obs

theorem LeV.cases {n : Nat} {x y : AV} (h : LeV n x y) : y = .dead ∨ (y = x ∧ AV.under n x = true) := by
  unfold LeV at h
  split at h
  · exact .inl rfl
  · split at h
    · obtain ⟨rfl, rfl⟩ := h; exact .inr ⟨rfl, rfl⟩
    · exact h.elim
  · split at h
    · subst h; exact .inr ⟨rfl, rfl⟩
    · exact h.elim
  · split at h
    · subst h; exact .inr ⟨rfl, rfl⟩
    · exact h.elim
  · split at h
    · subst h; exact .inr ⟨rfl, rfl⟩
    · exact h.elim
  · split at h
    · obtain ⟨rfl, rfl, h⟩ := h; exact .inr ⟨rfl, by simpa [AV.under] using h⟩
    · exact h.elim
  · split at h
    · obtain ⟨rfl, rfl, h⟩ := h; exact .inr ⟨rfl, by simpa [AV.under] using h⟩
    · exact h.elim
  · exact .inr h

section
variable {S : Nat → Nat → Prop} {w : World} {obs obs' : List Ob} {V : Nat → Value}
/-- What an object's place tells is told still, or the object is gone. -/
def Fits (obs obs' : List Ob) : Prop := ∀ (o : Nat) ob, obs'[o]? = some ob → ob.ver = none ∨ obs[o]? = some ob
mutual
theorem below_rep (hf : Fits obs obs') : ∀ (x : AV) (v : Value), AV.under obs'.length x = true → RepA S w obs V x v → RepA S w obs' V x v
  | .dead, _, _, _ => trivial
  | .d x, v, _, h => h
  | .row o k, v, hb, h => by
      simp only [AV.under, decide_eq_true_eq] at hb
      refine ⟨hb, fun k0 h0 => h.2 k0 ?_⟩
      unfold verOf at h0 ⊢
      obtain ⟨ob, h1, h2⟩ := Option.bind_eq_some_iff.1 h0
      rcases hf o ob h1 with h3 | h3
      · rw [h3] at h2; cases h2
      · rw [h3]; exact h2
  | .ptr o f, v, hb, h => by
      simp only [AV.under, decide_eq_true_eq] at hb
      exact ⟨hb, h.2⟩
  | .rptr o k j f, v, hb, h => by
      simp only [AV.under, decide_eq_true_eq] at hb
      refine ⟨hb, fun k0 h0 => ?_⟩
      unfold verOf at h0
      obtain ⟨ob, h1, h2⟩ := Option.bind_eq_some_iff.1 h0
      rcases hf o ob h1 with h3 | h3
      · rw [h3] at h2; cases h2
      · have hd : dtAt obs' o = dtAt obs o := by simp [dtAt, h1, h3]
        have := h.2 k0 (by unfold verOf; rw [h3]; exact h2)
        rw [hd]; exact this
  | .eptr c f, v, _, h => h
  | .agg xs, v, hb, h => by obtain ⟨vs, h1, h2⟩ := h; exact ⟨vs, h1, below_reps hf xs vs hb h2⟩
  | .tup xs, v, hb, h => by obtain ⟨vs, h1, h2⟩ := h; exact ⟨vs, h1, below_reps hf xs vs hb h2⟩
  | .fn f xs, v, hb, h => by obtain ⟨vs, h1, h2⟩ := h; exact ⟨vs, h1, below_reps hf xs vs hb h2⟩
  | .g b x, v, hb, h => ⟨fun e => below_rep hf x v hb (h.1 e), h.2⟩
theorem below_reps (hf : Fits obs obs') : ∀ (xs : List AV) (vs : List Value), AV.underL obs'.length xs = true → RepAs S w obs V xs vs → RepAs S w obs' V xs vs
  | [], vs, _, h => h
  | x :: xs, vs, hb, h => by
      simp only [AV.underL, Bool.and_eq_true] at hb
      obtain ⟨v, r, h1, h2, h3⟩ := h
      exact ⟨v, r, h1, below_rep hf x v hb.1 h2, below_reps hf xs r hb.2 h3⟩
end
theorem LeL.reps (hf : Fits obs obs') : ∀ {xs ys : List AV} {vs : List Value}, LeL obs'.length xs ys → RepAs S w obs V xs vs → RepAs S w obs' V ys vs
  | [], [], vs, h, hr => hr
  | [], _ :: _, vs, h, hr => h.elim
  | x :: xs, y :: ys, vs, h, hr => by
      obtain ⟨v, r, h1, h2, h3⟩ := hr
      refine ⟨v, r, h1, ?_, LeL.reps hf h.2 h3⟩
      rcases h.1.cases with rfl | ⟨rfl, hb⟩
      · trivial
      · exact below_rep hf _ v hb h2
  | _ :: _, [], _, h, _ => h.elim
theorem LeO.get {n : Nat} : ∀ {xs ys : List Ob}, LeO n xs ys → ∀ (o : Nat) y, ys[o]? = some y → ∃ x, xs[o]? = some x ∧ LeB n x y
  | xs, [], _, o, y, h => by simp at h
  | [], _ :: _, h, _, _, _ => h.elim
  | x :: xs, y :: ys, h, o, z, hz => by
      cases o with
      | zero => simp at hz; subst hz; exact ⟨x, rfl, h.1⟩
      | succ o => simp at hz ⊢; exact LeO.get h.2 o z hz
theorem LeO.fits {n : Nat} {xs ys : List Ob} (h : LeO n xs ys) : Fits xs ys := fun o y hy => by
  obtain ⟨x, h1, h2⟩ := h.get o y hy
  cases y with
  | gone => exact .inl rfl
  | box t cs => exact .inl rfl
  | row e t k =>
    cases x <;> try exact h2.elim
    obtain ⟨rfl, rfl, rfl⟩ := h2; exact .inr h1
  | set t k =>
    cases x <;> try exact h2.elim
    obtain ⟨rfl, rfl⟩ := h2; exact .inr h1
theorem LeB.owns {n : Nat} {x y : Ob} (h : LeB n x y) (hy : y.owns = true) : x.owns = true := by
  cases y <;> simp [Ob.owns] at hy <;> cases x <;> first | exact h.elim | rfl
end

theorem Rel.le {α β : AS} {a : Act} {w : World} (h : Le α β) (hn : F.n0 ≤ β.obs.length) (hr : Rel F α a w) : Rel F β a w := by
  obtain ⟨V, S, vs, hst, hd, ha, htm, hkp⟩ := hr
  have hf := h.2.fits
  refine ⟨V, S, vs, ⟨hst.keep, hst.s0, hst.snew, hst.sheap, ?_, ?_, ?_, ?_⟩, hd, ha, h.1.reps hf htm, hn, hkp.2⟩
  · intro o y hy
    obtain ⟨x, h1, h2⟩ := h.2.get o y hy
    have hx := hst.ob o x h1
    cases y with
    | gone => trivial
    | box t cs =>
      cases x <;> try exact h2.elim
      obtain ⟨rfl, h3⟩ := h2
      obtain ⟨g, us, q1, q2, q3, q4⟩ := hx
      exact ⟨g, us, q1, q2, h3.reps hf q3, q4⟩
    | row e t k =>
      cases x <;> try exact h2.elim
      obtain ⟨rfl, rfl, rfl⟩ := h2
      exact hx
    | set t k =>
      cases x <;> try exact h2.elim
      obtain ⟨rfl, rfl⟩ := h2
      exact hx
  · intro o y g j hy h1 h2
    obtain ⟨x, h3, h4⟩ := h.2.get o y hy
    exact hst.off o x g j h3 (h4.owns h1) h2
  · intro o o' y y' g hy hy' h1 h2
    obtain ⟨x, h3, h4⟩ := h.2.get o y hy
    obtain ⟨x', h3', h4'⟩ := h.2.get o' y' hy'
    exact hst.inj o o' x x' g h3 h3' (h4.owns h1) (h4'.owns h2)
  · intro o y g hy h1 h2
    obtain ⟨x, h3, h4⟩ := h.2.get o y hy
    exact hst.fresh o x g h3 (h4.owns h1) h2

theorem AW.le {c : Code} {Q : AExit → AS → Prop} {α β : AS} (h : Le α β) (hn : F.n0 ≤ β.obs.length) (hw : AW P F c Q β) : AW P F c Q α := fun a w hr => hw a w (hr.le h hn)
/-- A test told as a proposition. -/
theorem AW.condP {c : Operand} {x y : Code} {Q : AExit → AS → Prop} {α : AS} {b : Bool} {p : Prop} (hc : opv α.tmps c = .d (.v (.bool b))) (hp : b = true ↔ p) (ht : p → AW P F x Q α) (hf : ¬ p → AW P F y Q α) : AW P F (.cond c x y) Q α :=
  AW.cond hc (fun h => ht (hp.1 h)) (fun h => hf (fun q => by rw [hp.2 q] at h; cases h))

/-! ### Loops -/
def loopQ {ι : Type} (inv : ι → Prop) (st : ι → AS) (μ : ι → Nat) (i : ι) (Q : AExit → AS → Prop) : AExit → AS → Prop
  | .normal, β => ∃ j, inv j ∧ μ j < μ i ∧ Le β (st j)
  | e, β => Q e β
theorem AW.loop {ι : Type} (inv : ι → Prop) (st : ι → AS) (μ : ι → Nat) {c : Code} {Q : AExit → AS → Prop} {α : AS} (i0 : ι) (h0 : inv i0) (hnn : ∀ i, F.n0 ≤ (st i).obs.length) (hle : Le α (st i0))
    (round : ∀ i, inv i → AW P F c (loopQ inv st μ i Q) (st i)) : AW P F (.loop c) Q α := by
  intro a w hr b k cs
  have key : ∀ n i a w, μ i = n → inv i → Rel F (st i) a w →
      ∃ e a' w', liftQ F Q e a' w' ∧ Arrives P (lone (b.at a (.code c :: .inLoop c :: k)) cs w) b k cs e a' w' := by
    intro n
    induction n using Nat.strongRecOn with
    | _ n ih =>
      intro i a w hn hi hr
      obtain ⟨e, a₁, w₁, hq, harr⟩ := round i hi a w hr b (.inLoop c :: k) cs
      cases e with
      | normal =>
        obtain ⟨β, hβ, j, hj, hlt, hle⟩ := hq
        obtain ⟨e₂, a₂, w₂, hq₂, harr₂⟩ := ih (μ j) (hn ▸ hlt) j a₁ w₁ rfl hj (hβ.le hle (hnn j))
        exact ⟨e₂, a₂, w₂, hq₂, .of_steps (Steps.trans harr (.one step_inLoop)) harr₂⟩
      | exit id => exact ⟨.exit id, a₁, w₁, hq, .pass (x := .inLoop c) rfl (fun _ _ => .inl (by simp)) harr⟩
      | ret => exact ⟨.ret, a₁, w₁, hq, .pass (x := .inLoop c) rfl (fun _ _ => .inl (by simp)) harr⟩
      | goto l => exact hq.elim
      | panic ch => exact hq.elim
      | outgrown => exact hq.elim
  obtain ⟨e, a', w', hq, harr⟩ := key _ i0 a w rfl h0 (hr.le hle (hnn i0))
  exact ⟨e, a', w', hq, .of_steps (.one step_loop) harr⟩
end
end Go.Proofs.YtlhfjjkoflpecaaAw

namespace Go.Proofs.YtlhfjjkoflpecaaAw
open Go.RowKit
set_option linter.unusedSimpArgs false
set_option linter.unusedVariables false

def ownX (obs : List Ob) (V : Nat → Value) : Nat → Prop := fun g => ∃ o ob, obs[o]? = some ob ∧ ob.owns = true ∧ ownB (V o) = some g

/-- A function of the program's own, with a body. -/
def Enters (P : Program) (f : FuncId) : Prop := ∃ fn, P.funcs[f]? = some fn ∧ fn.name ≠ "runtime.NumGoroutine" ∧ fn.body.isNone = false

/-- THE CONTRACT, with objects that are handed over. -/
def GC (P : Program) (f : FuncId) (objs : List Ob) (args : List AV) (R : List Ob → AV → Prop) : Prop :=
  Enters P f ∧ ∀ S0 w0 V vs, St w0 (ownX objs V) S0 objs V S0 w0 → RepAs S0 w0 objs V args vs →
    Calls P f vs.toArray w0 fun e w' => ∃ v S V' objs' r, e = .returned v ∧ R objs' r ∧ St w0 (ownX objs V) S0 objs' V' S w' ∧ RepA S w' objs' V' r v ∧
      ∀ o g, o < objs.length → V o = .pointer (some ⟨g, 0, none⟩) → V' o = .pointer (some ⟨g, 0, none⟩)

mutual
/-- It leads to no object. -/
def AV.closed : AV → Bool
  | .dead => true
  | .d _ => true
  | .agg xs => AV.closedL xs
  | .tup xs => AV.closedL xs
  | .fn _ xs => AV.closedL xs
  | _ => false
def AV.closedL : List AV → Bool
  | [] => true
  | x :: xs => AV.closed x && AV.closedL xs
end
section
variable {S : Nat → Nat → Prop} {w : World} {obs obs' : List Ob} {V V' : Nat → Value}
mutual
theorem closed_rep : ∀ (x : AV) (v : Value), AV.closed x = true → RepA S w obs V x v → RepA S w obs' V' x v
  | .dead, _, _, _ => trivial
  | .d x, v, _, h => h
  | .row o k, v, hb, h => by simp [AV.closed] at hb
  | .ptr o f, v, hb, h => by simp [AV.closed] at hb
  | .rptr o k j f, v, hb, h => by simp [AV.closed] at hb
  | .eptr c f, v, hb, h => by simp [AV.closed] at hb
  | .agg xs, v, hb, h => by obtain ⟨vs, h1, h2⟩ := h; exact ⟨vs, h1, closed_reps xs vs hb h2⟩
  | .tup xs, v, hb, h => by obtain ⟨vs, h1, h2⟩ := h; exact ⟨vs, h1, closed_reps xs vs hb h2⟩
  | .fn f xs, v, hb, h => by obtain ⟨vs, h1, h2⟩ := h; exact ⟨vs, h1, closed_reps xs vs hb h2⟩
  | .g b x, v, hb, h => by simp [AV.closed] at hb
theorem closed_reps : ∀ (xs : List AV) (vs : List Value), AV.closedL xs = true → RepAs S w obs V xs vs → RepAs S w obs' V' xs vs
  | [], vs, _, h => h
  | x :: xs, vs, hb, h => by
      simp only [AV.closedL, Bool.and_eq_true] at hb
      obtain ⟨v, r, h1, h2, h3⟩ := h
      exact ⟨v, r, h1, closed_rep x v hb.1 h2, closed_reps xs r hb.2 h3⟩
end
end

/-- THE CONTRACT of a function that is handed data and returns data. -/
def PC (P : Program) (f : FuncId) (args : List AV) (R : AV → Prop) : Prop := GC P f [] args (fun _ r => AV.closed r = true ∧ R r)

section
variable {P : Program} {F : Fr} {T : TypeId → Option TI}
theorem GC.mono {f : FuncId} {objs : List Ob} {args : List AV} {R R' : List Ob → AV → Prop} (h : GC P f objs args R) (hr : ∀ os r, R os r → R' os r) : GC P f objs args R' :=
  ⟨h.1, fun S0 w0 V vs hst ha => (h.2 S0 w0 V vs hst ha).mono fun e w' ⟨v, S, V', os, r, h1, h2, h3⟩ => ⟨v, S, V', os, r, h1, hr _ _ h2, h3⟩⟩
theorem PC.mono {f : FuncId} {args : List AV} {R R' : AV → Prop} (h : PC P f args R) (hr : ∀ r, R r → R' r) : PC P f args R' := GC.mono h fun _ _ ⟨h1, h2⟩ => ⟨h1, hr _ h2⟩

/-! ### Returning -/
def resA (T : TypeId → Option TI) (tmps : List AV) (obs : List Ob) : List ResultVar → Option (List AV)
  | [] => some []
  | .tmp t :: r =>
    match resA T tmps obs r with
    | some xs => some (opv tmps (.tmp t) :: xs)
    | none => none
  | .cell a t :: r =>
    match T t with
    | some i =>
      match loadA i obs (opv tmps (.tmp a)) with
      | some (_, x) =>
        match resA T tmps obs r with
        | some xs => some (x :: xs)
        | none => none
      | none => none
    | none => none
def freezeV (obs : List Ob) (x : AV) : Option (AV × List Ob) :=
  match x with
  | .d d => some (.d d, obs)
  | .agg xs =>
    match freezeL obs xs with
    | some (ds, obs') => some (.agg (ds.map .d), obs')
    | none => none
  | .fn f [] => some (.fn f [], obs)
  | .row o k =>
    match freeze1 obs (.row o k) with
    | some (d, obs') => some (.d d, obs')
    | none => none
  | _ => none
def freezeVs (obs : List Ob) : List AV → Option (List AV × List Ob)
  | [] => some ([], obs)
  | x :: xs =>
    match freezeV obs x with
    | some (y, obs') =>
      match freezeVs obs' xs with
      | some (ys, obs'') => some (y :: ys, obs'')
      | none => none
    | none => none
def oneV : List AV → AV
  | [y] => y
  | ys => .tup ys
/-- At the end: the results, settled. -/
def retK (T : TypeId → Option TI) (res : List ResultVar) (α : AS) (R : AV → Prop) : Prop :=
  match resA T α.tmps α.obs res with
  | some xs =>
    match freezeVs α.obs xs with
    | some (ys, _) => R (oneV ys)
    | none => False
  | none => False
def retQ (T : TypeId → Option TI) (res : List ResultVar) (R : AV → Prop) : AExit → AS → Prop
  | .normal, α => retK T res α R
  | .ret, α => retK T res α R
  | _, _ => False
/-- At the end: the results as they are, and the objects. -/
def retOK (T : TypeId → Option TI) (res : List ResultVar) (α : AS) (R : List Ob → AV → Prop) : Prop :=
  match resA T α.tmps α.obs res with
  | some xs => R α.obs (oneV xs)
  | none => False
def retOQ (T : TypeId → Option TI) (res : List ResultVar) (R : List Ob → AV → Prop) : AExit → AS → Prop
  | .normal, α => retOK T res α R
  | .ret, α => retOK T res α R
  | _, _ => False

theorem freezeV_closed {obs : List Ob} {x y : AV} {obs' : List Ob} (h : freezeV obs x = some (y, obs')) : AV.closed y = true := by
  have dl : ∀ ds : List Dt, AV.closedL (ds.map .d) = true := fun ds => by
    induction ds with
    | nil => rfl
    | cons d ds ih => simp [AV.closedL, AV.closed, ih]
  unfold freezeV at h
  split at h
  · simp only [Option.some.injEq, Prod.mk.injEq] at h; obtain ⟨rfl, rfl⟩ := h; rfl
  · split at h
    · simp only [Option.some.injEq, Prod.mk.injEq] at h; obtain ⟨rfl, rfl⟩ := h; exact dl _
    · cases h
  · simp only [Option.some.injEq, Prod.mk.injEq] at h; obtain ⟨rfl, rfl⟩ := h; rfl
  · split at h
    · simp only [Option.some.injEq, Prod.mk.injEq] at h; obtain ⟨rfl, rfl⟩ := h; rfl
    · cases h
  · cases h
theorem freezeVs_closed : ∀ {xs : List AV} {obs : List Ob} {ys : List AV} {obs' : List Ob}, freezeVs obs xs = some (ys, obs') → AV.closedL ys = true
  | [], obs, ys, obs', h => by simp only [freezeVs, Option.some.injEq, Prod.mk.injEq] at h; obtain ⟨rfl, rfl⟩ := h; rfl
  | x :: xs, obs, ys, obs', h => by
      unfold freezeVs at h
      split at h
      · rename_i y obs1 h1
        split at h
        · rename_i ys1 obs2 h2
          simp only [Option.some.injEq, Prod.mk.injEq] at h; obtain ⟨rfl, rfl⟩ := h
          simp [AV.closedL, freezeV_closed h1, freezeVs_closed h2]
        · cases h
      · cases h
theorem oneV_closed {ys : List AV} (h : AV.closedL ys = true) : AV.closed (oneV ys) = true := by
  unfold oneV
  split
  · simpa [AV.closedL] using h
  · exact h

section
variable {S : Nat → Nat → Prop} {w : World} {obs : List Ob} {V : Nat → Value}
theorem freezeV_ok (hst : St F.w0 F.X F.S0 obs V S w) {x : AV} {v : Value} (hx : RepA S w obs V x v) {y : AV} {obs' : List Ob} (h : freezeV obs x = some (y, obs')) :
    ∃ V' S', St F.w0 F.X F.S0 obs' V' S' w ∧ Mov S w obs V S' w obs' V' ∧ RepA S' w obs' V' y v := by
  unfold freezeV at h
  split at h
  · simp only [Option.some.injEq, Prod.mk.injEq] at h; obtain ⟨rfl, rfl⟩ := h
    exact ⟨V, S, hst, Mov.refl _ _ _ _, hx⟩
  · split at h
    · rename_i ds obs1 h1
      simp only [Option.some.injEq, Prod.mk.injEq] at h; obtain ⟨rfl, rfl⟩ := h
      obtain ⟨vs, rfl, hr⟩ := hx
      obtain ⟨V', S', a, b, c⟩ := freezeL_ok _ vs hst hr h1
      exact ⟨V', S', a, b, vs, rfl, c⟩
    · cases h
  · simp only [Option.some.injEq, Prod.mk.injEq] at h; obtain ⟨rfl, rfl⟩ := h
    exact ⟨V, S, hst, Mov.refl _ _ _ _, hx⟩
  · split at h
    · rename_i d obs1 h1
      simp only [Option.some.injEq, Prod.mk.injEq] at h; obtain ⟨rfl, rfl⟩ := h
      obtain ⟨V', S', a, b, c⟩ := freeze1_ok hst hx h1
      exact ⟨V', S', a, b, c⟩
    · cases h
  · cases h
theorem freezeVs_ok : ∀ (xs : List AV) {obs : List Ob} {V : Nat → Value} {S : Nat → Nat → Prop} (vs : List Value) (hst : St F.w0 F.X F.S0 obs V S w) (hx : RepAs S w obs V xs vs) {ys : List AV} {obs' : List Ob}
    (h : freezeVs obs xs = some (ys, obs')), ∃ V' S', St F.w0 F.X F.S0 obs' V' S' w ∧ Mov S w obs V S' w obs' V' ∧ RepAs S' w obs' V' ys vs
  | [], obs, V, S, vs, hst, hx, ys, obs', h => by
      simp only [freezeVs, Option.some.injEq, Prod.mk.injEq] at h
      obtain ⟨rfl, rfl⟩ := h
      exact ⟨V, S, hst, Mov.refl _ _ _ _, hx⟩
  | x :: xs, obs, V, S, vs, hst, hx, ys, obs', h => by
      obtain ⟨v, r, rfl, h2, h3⟩ := hx
      unfold freezeVs at h
      split at h
      · rename_i y obs1 h1
        obtain ⟨V1, S1, a, b, c⟩ := freezeV_ok hst h2 h1
        split at h
        · rename_i ys1 obs2 h4
          simp only [Option.some.injEq, Prod.mk.injEq] at h
          obtain ⟨rfl, rfl⟩ := h
          obtain ⟨V2, S2, a2, b2, c2⟩ := freezeVs_ok xs r a (b.all h3) h4
          exact ⟨V2, S2, a2, b.trans b2, v, r, rfl, b2 _ _ c, c2⟩
        · cases h
      · cases h
theorem oneV_ok {ys : List AV} {vs : List Value} (h : RepAs S w obs V ys vs) : RepA S w obs V (oneV ys) (if h : vs.toArray.size = 1 then vs.toArray[0] else .tuple vs.toArray) := by
  have hl := RepAs.length h
  unfold oneV
  split
  · rename_i y
    obtain ⟨v, r, rfl, h1, h2⟩ := h
    obtain rfl : r = [] := h2
    simpa using h1
  · rename_i hne
    rw [dif_neg]
    · exact ⟨vs, rfl, h⟩
    · intro he
      have : ys.length = 1 := by rw [← hl]; simpa using he
      match ys, this with
      | [y], _ => exact hne y rfl
def resF (tmps : Array Value) : ResultVar → Sem Value
  | .tmp t => pure (tmps.getD t undef)
  | .cell a t => do loadVar t (← asAddr (tmps.getD a undef))
theorem resA_ok (hT : TabOk P T) (hst : St F.w0 F.X F.S0 obs V S w) {tmps : List AV} {vs : List Value} {a : Act} (ha : a.tmps = vs.toArray) (htm : RepAs S w obs V tmps vs) : ∀ (res : List ResultVar) {xs : List AV},
    resA T tmps obs res = some xs → ∃ us, Sem.run P (res.mapM (resF a.tmps)) w = .ok us w ∧ RepAs S w obs V xs us
  | [], xs, h => by
      simp only [resA, Option.some.injEq] at h; subst h
      exact ⟨[], by simp [Sem.run_pure], rfl⟩
  | .tmp t :: r, xs, h => by
      unfold resA at h
      split at h
      · rename_i ys hy
        simp only [Option.some.injEq] at h; subst h
        obtain ⟨us, h1, h2⟩ := resA_ok hT hst ha htm r hy
        refine ⟨a.tmps.getD t undef :: us, ?_, _, us, rfl, opv_ok ha htm (.tmp t), h2⟩
        have hrun : (resF a.tmps (.tmp t)).run P w = .ok (a.tmps.getD t undef) w := rfl
        simp only [List.mapM_cons, Sem.run_bind, Sem.run_pure, Result.andThen_ok, hrun, h1]
      · cases h
  | .cell x t :: r, xs, h => by
      unfold resA at h
      split at h
      · rename_i i hi
        split at h
        · rename_i p y hy
          split at h
          · rename_i ys hys
            simp only [Option.some.injEq] at h; subst h
            obtain ⟨us, h1, h2⟩ := resA_ok hT hst ha htm r hys
            have hx := opv_ok ha htm (.tmp x)
            obtain ⟨v, hv, hr⟩ := loadA_ok hst (hT.ok _ _ hi) hx hy
            have he : a.eval (.tmp x) = a.tmps.getD x undef := rfl
            rw [he] at hv
            have hrun : (resF a.tmps (.cell x t)).run P w = .ok v w := by
              unfold resF
              cases hp : a.tmps.getD x undef with
              | pointer q =>
                cases q with
                | none =>
                  rw [hp] at hv
                  simp [Instr.loadAt, Instr.sureAddr, stuck, Sem.run_bind, Sem.run, Result.andThen] at hv
                | some ad =>
                  rw [hp] at hv
                  simp only [Instr.loadAt, Instr.sureAddr, Sem.run_bind, Sem.run_pure, Result.andThen_ok] at hv
                  show Sem.run P (do loadVar t (← asAddr (a.tmps.getD x undef))) w = _
                  rw [hp]
                  simp only [asAddr, Sem.run_bind, Sem.run_pure, Result.andThen_ok]
                  exact hv
              | _ => rw [hp] at hv; simp [Instr.loadAt, Instr.sureAddr, stuck, Sem.run_bind, Sem.run, Result.andThen] at hv
            exact ⟨v :: us, by simp only [List.mapM_cons, Sem.run_bind, Sem.run_pure, Result.andThen_ok, hrun, h1], v, us, rfl, hr, h2⟩
          · cases h
        · cases h
      · cases h
theorem run_results (fn : Func) (tmps : Array Value) {us : List Value} (h : Sem.run P (fn.results.toList.mapM (resF tmps)) w = .ok us w) :
    (results fn tmps).run P w = .ok (if h : us.toArray.size = 1 then us.toArray[0] else .tuple us.toArray) w := by
  have e : results fn tmps = (do let vs ← fn.results.mapM (resF tmps); pure (if h : vs.size = 1 then vs[0] else .tuple vs)) := by
    unfold results
    congr 2
  rw [e, Array.mapM_eq_mapM_toList]
  simp only [map_eq_pure_bind, Sem.run_bind, h, Result.andThen_ok, Sem.run_pure]
end

/-! ### Entering -/
def startAS (fn : Func) (objs : List Ob) (args : List AV) : AS := ⟨args ++ List.replicate (fn.ntmps - args.length) .dead, objs⟩
theorem RepAs.deads {S : Nat → Nat → Prop} {w : World} {obs : List Ob} {V : Nat → Value} : ∀ n, RepAs S w obs V (List.replicate n .dead) (List.replicate n undef)
  | 0 => rfl
  | n + 1 => ⟨undef, _, rfl, trivial, RepAs.deads n⟩

theorem GC.intro (hT : TabOk P T) {f : FuncId} {fn : Func} {c : Code} (hf : P.funcs[f]? = some fn) (hb : fn.body = some c) (hn : fn.name ≠ "runtime.NumGoroutine") {objs : List Ob} {args : List AV} {R : List Ob → AV → Prop}
    (h : ∀ F : Fr, F.n0 = objs.length → AW P F c (retOQ T fn.results.toList R) (startAS fn objs args)) : GC P f objs args R := by
  refine ⟨⟨fn, hf, hn, by rw [hb]; rfl⟩, fun S0 w0 V vs hst ha => ?_⟩
  refine calls_of_wp hf hb ?_
  let F : Fr := ⟨w0, ownX objs V, S0, objs.length, V⟩
  have hrel : Rel F (startAS fn objs args) { tmps := vs.toArray ++ Array.replicate (fn.ntmps - vs.toArray.size) undef, defers := [] } w0 := by
    refine ⟨V, S0, vs ++ List.replicate (fn.ntmps - args.length) undef, hst, rfl, ?_, RepAs.append ha (RepAs.deads _), Nat.le_refl _, fun _ _ _ h => h⟩
    rw [← RepAs.length ha]; simp
  have fin : ∀ α a w', Rel F α a w' → retOK T fn.results.toList α R → a.defers = [] ∧ ∃ v, (results fn a.tmps).run P w' = .ok v w' ∧ ∃ v2 S V' objs' r, Ending.returned v = .returned v2 ∧ R objs' r ∧ St w0 (ownX objs V) S0 objs' V' S w' ∧ RepA S w' objs' V' r v2 ∧
      ∀ o g, o < objs.length → V o = .pointer (some ⟨g, 0, none⟩) → V' o = .pointer (some ⟨g, 0, none⟩) := by
    intro α a w' hr hk
    obtain ⟨V', S, us, hst', hd, ha', htm, hkp⟩ := hr
    unfold retOK at hk
    split at hk
    · rename_i xs hxs
      obtain ⟨rs, h1, h2⟩ := resA_ok hT hst' ha' htm fn.results.toList hxs
      exact ⟨hd, _, run_results fn a.tmps h1, _, S, V', α.obs, _, rfl, hk, hst', oneV_ok h2, hkp.2⟩
    · exact hk.elim
  refine Code.wp_mono (fun e a w' q => ?_) (h F rfl _ _ hrel)
  cases e with
  | normal => obtain ⟨α, hr, hk⟩ := q; exact fin α a w' hr hk
  | ret => obtain ⟨α, hr, hk⟩ := q; exact fin α a w' hr hk
  | exit id => obtain ⟨α, hr, hk⟩ := q; exact hk.elim
  | goto l => exact q.elim
  | panic c => exact q.elim
  | outgrown => exact q.elim

theorem PC.intro (hT : TabOk P T) {f : FuncId} {fn : Func} {c : Code} (hf : P.funcs[f]? = some fn) (hb : fn.body = some c) (hn : fn.name ≠ "runtime.NumGoroutine") {args : List AV} {R : AV → Prop}
    (h : ∀ F : Fr, F.n0 = 0 → AW P F c (retQ T fn.results.toList R) (startAS fn [] args)) : PC P f args R := by
  refine ⟨⟨fn, hf, hn, by rw [hb]; rfl⟩, fun S0 w0 V vs hst ha => ?_⟩
  refine calls_of_wp hf hb ?_
  let F : Fr := ⟨w0, ownX [] V, S0, 0, V⟩
  have hrel : Rel F (startAS fn [] args) { tmps := vs.toArray ++ Array.replicate (fn.ntmps - vs.toArray.size) undef, defers := [] } w0 := by
    refine ⟨V, S0, vs ++ List.replicate (fn.ntmps - args.length) undef, hst, rfl, ?_, RepAs.append ha (RepAs.deads _), Nat.le_refl _, fun _ _ _ h => h⟩
    rw [← RepAs.length ha]; simp
  have fin : ∀ α a w', Rel F α a w' → retK T fn.results.toList α R → a.defers = [] ∧ ∃ v, (results fn a.tmps).run P w' = .ok v w' ∧ ∃ v2 S V' objs' r, Ending.returned v = .returned v2 ∧ (AV.closed r = true ∧ R r) ∧ St w0 (ownX [] V) S0 objs' V' S w' ∧ RepA S w' objs' V' r v2 ∧
      ∀ o g, o < ([] : List Ob).length → V o = .pointer (some ⟨g, 0, none⟩) → V' o = .pointer (some ⟨g, 0, none⟩) := by
    intro α a w' hr hk
    obtain ⟨V', S, us, hst', hd, ha', htm, hkp⟩ := hr
    unfold retK at hk
    split at hk
    · rename_i xs hxs
      split at hk
      · rename_i ys obs' hys
        obtain ⟨rs, h1, h2⟩ := resA_ok hT hst' ha' htm fn.results.toList hxs
        obtain ⟨V2, S2, a1, a2, a3⟩ := freezeVs_ok xs rs hst' h2 hys
        exact ⟨hd, _, run_results fn a.tmps h1, _, S2, V2, obs', _, rfl, ⟨oneV_closed (freezeVs_closed hys), hk⟩, a1, oneV_ok a3, fun o g ho => by simp at ho⟩
      · exact hk.elim
    · exact hk.elim
  refine Code.wp_mono (fun e a w' q => ?_) (h F rfl _ _ hrel)
  cases e with
  | normal => obtain ⟨α, hr, hk⟩ := q; exact fin α a w' hr hk
  | ret => obtain ⟨α, hr, hk⟩ := q; exact fin α a w' hr hk
  | exit id => obtain ⟨α, hr, hk⟩ := q; exact hk.elim
  | goto l => exact q.elim
  | panic c => exact q.elim
  | outgrown => exact q.elim
end
end Go.Proofs.YtlhfjjkoflpecaaAw

namespace Go.Proofs.YtlhfjjkoflpecaaAw
open Go.RowKit
set_option linter.unusedSimpArgs false
set_option linter.unusedVariables false

section
variable {P : Program} {F : Fr} {T : TypeId → Option TI} {S S' : Nat → Nat → Prop} {w w' : World} {obs : List Ob} {V : Nat → Value}

theorem St.initial (hst : St F.w0 F.X F.S0 obs V S w) (V0 : Nat → Value) : St w (ownX [] V0) S [] V0 S w where
  keep := Keep.refl _ _
  s0 := fun _ _ h => h
  snew := fun _ _ h => .inl h
  sheap := hst.sheap
  ob := fun o ob h => by simp at h
  off := fun o ob g j h => by simp at h
  inj := fun o o' ob ob' g h => by simp at h
  fresh := fun o ob g h => by simp at h

theorem St.more (hst : St F.w0 F.X F.S0 obs V S w) (hb : Below w.heap.size w w') (hs : ∀ b j, S b j → S' b j) (hn : ∀ b j, S' b j → S b j ∨ w.heap.size ≤ b) (hh : ∀ b j, S' b j → b < w'.heap.size) :
    St F.w0 F.X F.S0 obs V S' w' ∧ Mov S w obs V S' w' obs V := by
  have hw : ∀ b o, S b o → w'.cell? ⟨b, o, none⟩ = w.cell? ⟨b, o, none⟩ := fun b o h => cell_block (hb.block b (hst.sheap b o h))
  refine ⟨⟨hst.keep.trans (.of_below hb), fun b j h => hs b j (hst.s0 b j h), ?_, hh, ?_, ?_, hst.inj, hst.fresh⟩, fun y u h => RepA.mono hs hw (Evo.refl _ _) y u h⟩
  · intro b j h
    rcases hn b j h with h | h
    · exact hst.snew b j h
    · exact .inr (.inl (Nat.le_trans hst.keep.size h))
  · intro o ob ho
    exact (hst.ob o ob ho).mono hs hw (Evo.refl _ _) rfl (fun g h1 h2 => hb.block g ((hst.ob o ob ho).lt h1 h2))
  · intro o ob g j ho h1 h2 h3
    rcases hn g j h3 with h | h
    · exact hst.off o ob g j ho h1 h2 h
    · have := (hst.ob o ob ho).lt h1 h2; omega

/-! ### Calls -/
def calleeA (tmps : List AV) (c : Call) : Option (FuncId × List AV) :=
  match c.callee with
  | .value x =>
    match ops tmps x with
    | .fn f cap => some (f, cap)
    | _ => none
  | _ => none
def opoL (tmps : List AV) : List Operand → Prop
  | [] => True
  | x :: xs => opo tmps x ∧ opoL tmps xs
theorem opoL_mem {tmps : List AV} : ∀ {xs : List Operand}, opoL tmps xs → ∀ x ∈ xs, opo tmps x
  | [], _, x, hx => by cases hx
  | y :: ys, h, x, hx => by
      rcases List.mem_cons.1 hx with rfl | hx
      · exact h.1
      · exact opoL_mem h.2 x hx
def calleeO (tmps : List AV) (c : Call) : Prop :=
  (match c.callee with | .value x => opo tmps x | _ => True) ∧ opoL tmps c.args.toList
def callArgs (tmps : List AV) (c : Call) (cap : List AV) : List AV := c.args.toList.map (ops tmps) ++ cap

theorem run_callFunc {f : FuncId} (h : Enters P f) (args : Array Value) : (callFunc f args).run P w = .ok (.enter f args) w := by
  obtain ⟨fn, h1, h2, h3⟩ := h
  unfold callFunc
  simp only [Sem.run_bind, run_program, Result.andThen_ok, h1]
  have hn : (fn.name == "runtime.NumGoroutine") = false := by simpa using h2
  simp only [hn, Bool.false_eq_true, if_false, h3]
  rfl
theorem call_run {o : Oper} {c : Call} (ho : o.op = .call c) {tmps : List AV} {vs : List Value} {a : Act} (ha : a.tmps = vs.toArray) (htm : RepAs S w obs V tmps vs) (hp : calleeO tmps c) {f : FuncId} {cap : List AV}
    (hc : calleeA tmps c = some (f, cap)) (he : Enters P f) : ∃ us, (execOp a.eval o).run P w = .ok (.enter f (List.toArray us)) w ∧ RepAs S w obs V (callArgs tmps c cap) us := by
  obtain ⟨callee, args, argTypes⟩ := c
  unfold calleeA at hc
  cases callee with
  | invoke r m => cases hc
  | builtin b => cases hc
  | value x =>
    simp only at hc
    split at hc
    · rename_i f' cap' hx
      simp only [Option.some.injEq, Prod.mk.injEq] at hc
      obtain ⟨rfl, rfl⟩ := hc
      have hv := ops_ok ha htm x hp.1
      rw [hx] at hv
      obtain ⟨cs, hv, hcs⟩ := hv
      have hargs : RepAs S w obs V (args.toList.map (ops tmps)) (args.toList.map a.eval) := by
        refine RepAs.of_get (by simp) (fun j y u hy hu => ?_)
        rw [List.getElem?_map] at hy hu
        cases hq : args.toList[j]? with
        | none => rw [hq] at hy; cases hy
        | some q =>
          rw [hq] at hy hu
          simp only [Option.map_some, Option.some.injEq] at hy hu
          subst hy; subst hu
          exact ops_ok ha htm q (opoL_mem hp.2 q (List.mem_of_getElem? hq))
      refine ⟨args.toList.map a.eval ++ cs, ?_, RepAs.append hargs hcs⟩
      unfold execOp
      rw [ho]
      have e : Deferred.ofValue (a.eval x) (args.map a.eval) = pure { target := .fn (.func f') cs.toArray, args := #[] ++ args.map a.eval } := by rw [hv]; rfl
      simp only [resolve, e, Sem.run_bind, Sem.run_pure, Result.andThen_ok, invoke, run_callFunc he]
      congr 2
      rw [← Array.toArray_toList (xs := args)]
      simp
    · cases hc

/-- What lies as ys lies as args. -/
def ArgsLe (ys args : List AV) : Prop := ∀ S w obs V vs, RepAs S w obs V ys vs → RepAs S w obs V args vs
theorem ArgsLe.refl (ys : List AV) : ArgsLe ys ys := fun _ _ _ _ _ h => h

theorem AL.calls {os : Array Oper} {Q : AExit → AS → Prop} {rest : List Oper} {o : Oper} {α : AS} {c : Call} (ho : o.op = .call c) (hg : (∃ G, guardB os.toList α.tmps o.guard = some (some G) ∧ G = true) ∨ guardB os.toList α.tmps o.guard = some none)
    {f : FuncId} {cap : List AV} (hc : calleeA α.tmps c = some (f, cap)) (hp : calleeO α.tmps c) {ys : List AV} {obs' : List Ob} (hfr : freezeVs α.obs (callArgs α.tmps c cap) = some (ys, obs')) {args : List AV} {R : AV → Prop}
    (hPC : PC P f args R) (hle : ArgsLe ys args) (h : ∀ r, R r → AL P F os Q rest ⟨putT α.tmps o.dst r, obs'⟩) : AL P F os Q (o :: rest) α := by
  intro a w hr
  obtain ⟨V, S, vs, hst, hd, ha, htm, hkp⟩ := hr
  obtain ⟨g1, g2⟩ := guard_wanted (os := os) ha htm o
  have hwant : Region.wanted o (yielded os a.tmps) = true := by
    rcases hg with ⟨G, h1, h2⟩ | h1
    · rw [g2 G h1, h2]
    · exact g1 h1
  obtain ⟨us, hrun, hus⟩ := call_run (P := P) ho ha htm hp hc hPC.1
  obtain ⟨V1, S1, st1, mv1, hys⟩ := freezeVs_ok _ us hst hus hfr
  have hargs := hle _ _ _ _ _ hys
  have hcl := freezeVs_closed hfr
  unfold wpList
  rw [if_pos hwant]
  refine .inl ?_
  unfold Oper.wp
  rw [hrun]
  have hargs0 : RepAs S1 w [] V1 args us := hle _ _ _ _ _ (closed_reps ys us hcl hys)
  refine Calls.mono (hPC.2 S1 w V1 us (st1.initial V1) hargs0) fun e w' hh => ?_
  obtain ⟨v, S2, V2, objs', r, rfl, ⟨hcr, hR⟩, st2, hrep, _⟩ := hh
  have hb : Below w.heap.size w w' := st2.keep.below (fun k hk => by obtain ⟨o, ob, h1, _⟩ := hk; simp at h1)
  obtain ⟨st3, mv3⟩ := st1.more hb st2.s0 (fun b j hj => by
    rcases st2.snew b j hj with h | h | ⟨o, ob, h1, _⟩
    · exact .inl h
    · exact .inr h
    · simp at h1) st2.sheap
  have mv := mv1.trans mv3
  exact h r hR _ _ (Rel.put (α := α) (a := a) st3 hd ha (mv.all htm) (hkp.mov mv) o.dst (closed_rep r v hcr hrep))

theorem AL.call {os : Array Oper} {Q : AExit → AS → Prop} {rest : List Oper} {o : Oper} {α : AS} {c : Call} {f : FuncId} {cap ys args : List AV} {obs' : List Ob} {R : AV → Prop}
    (ho : o.op = .call c) (hg : guardB os.toList α.tmps o.guard = some none) (hc : calleeA α.tmps c = some (f, cap)) (hp : calleeO α.tmps c) (hfr : freezeVs α.obs (callArgs α.tmps c cap) = some (ys, obs'))
    (hPC : PC P f args R) (hle : ArgsLe ys args) (h : ∀ r, R r → AL P F os Q rest ⟨putT α.tmps o.dst r, obs'⟩) : AL P F os Q (o :: rest) α :=
  AL.calls ho (.inr hg) hc hp hfr hPC hle h
theorem AL.undone {os : Array Oper} {Q : AExit → AS → Prop} {rest : List Oper} {o : Oper} {α : AS} {G : Bool} (hg : guardB os.toList α.tmps o.guard = some (some G)) (hG : G = false) (x : AV)
    (h : AL P F os Q rest ⟨putT α.tmps o.dst (.g false x), α.obs⟩) : AL P F os Q (o :: rest) α := by
  intro a w hr
  obtain ⟨V, S, vs, hst, hd, ha, htm, hkp⟩ := hr
  obtain ⟨g1, g2⟩ := guard_wanted (os := os) ha htm o
  unfold wpList
  rw [g2 G hg, hG, if_neg (by simp)]
  exact h _ _ (Rel.put (α := α) (a := a) hst hd ha htm hkp o.dst (x := .g false x) (v := undef) (And.intro (fun e => nomatch e) (fun _ => rfl)))
theorem AL.callG {os : Array Oper} {Q : AExit → AS → Prop} {rest : List Oper} {o : Oper} {α : AS} {G : Bool} {c : Call} {f : FuncId} {cap ys args : List AV} {obs' : List Ob} {R : AV → Prop}
    (ho : o.op = .call c) (hg : guardB os.toList α.tmps o.guard = some (some G)) (hc : calleeA α.tmps c = some (f, cap)) (hp : G = true → calleeO α.tmps c) (hfr : freezeVs α.obs (callArgs α.tmps c cap) = some (ys, obs'))
    (hPC : G = true → PC P f args R) (hle : ArgsLe ys args) (h : G = true → ∀ r, R r → AL P F os Q rest ⟨putT α.tmps o.dst r, obs'⟩)
    (hf : G = false → AL P F os Q rest ⟨putT α.tmps o.dst (.g false (bv false)), α.obs⟩) : AL P F os Q (o :: rest) α := by
  cases hG : G with
  | true => exact AL.calls ho (.inl ⟨G, hg, hG⟩) hc (hp hG) hfr (hPC hG) hle (h hG)
  | false => exact AL.undone hg hG _ (hf hG)

/-! ### A run of operations that are no calls -/
def isCall : Op → Bool
  | .call c => match c.callee with | .value _ => true | _ => false
  | _ => false
def stepL (T : TypeId → Option TI) (os : List Oper) (o : Oper) (α : AS) : Option (Prop × AS) :=
  match guardB os α.tmps o.guard with
  | some none =>
    match objOp T o.op α.tmps α.obs with
    | some (p, x, obs') => some (p, ⟨putT α.tmps o.dst x, obs'⟩)
    | none => none
  | some (some G) =>
    match pureOp T o.op α.tmps α.obs with
    | some (p, x) => some (G = true → p, ⟨putT α.tmps o.dst (.g G x), α.obs⟩)
    | none => none
  | none => none
/-- Up to the next call: what must hold, the state, what is left. -/
def runL (T : TypeId → Option TI) (os : List Oper) : List Oper → AS → Option (Prop × AS × List Oper)
  | [], α => some (True, α, [])
  | o :: rest, α =>
    match isCall o.op with
    | true => some (True, α, o :: rest)
    | false =>
      match stepL T os o α with
      | some (p, β) =>
        match runL T os rest β with
        | some (q, γ, r) => some (p ∧ q, γ, r)
        | none => none
      | none => none
theorem stepL_ok {os : List Oper} {o : Oper} {α β : AS} {p : Prop} (h : stepL T os o α = some (p, β)) (hp : p) {K : AS → Prop} (hk : K β) : stepK T os o α K := by
  unfold stepL at h
  unfold stepK
  cases e : guardB os α.tmps o.guard with
  | none => rw [e] at h; cases h
  | some g =>
    rw [e] at h
    cases g with
    | none =>
      simp only at h ⊢
      cases e2 : objOp T o.op α.tmps α.obs with
      | none => rw [e2] at h; cases h
      | some q =>
        obtain ⟨q1, q2, q3⟩ := q
        rw [e2] at h
        simp only [Option.some.injEq, Prod.mk.injEq] at h
        obtain ⟨rfl, rfl⟩ := h
        exact ⟨hp, hk⟩
    | some G =>
      simp only at h ⊢
      cases e2 : pureOp T o.op α.tmps α.obs with
      | none => rw [e2] at h; cases h
      | some q =>
        obtain ⟨q1, q2⟩ := q
        rw [e2] at h
        simp only [Option.some.injEq, Prod.mk.injEq] at h
        obtain ⟨rfl, rfl⟩ := h
        exact ⟨hp, hk⟩
theorem AL.run (hT : TabOk P T) {os : Array Oper} {Q : AExit → AS → Prop} : ∀ {l : List Oper} {α β : AS} {p : Prop} {rest : List Oper}, runL T os.toList l α = some (p, β, rest) → p → AL P F os Q rest β → AL P F os Q l α
  | [], α, β, p, rest, h, hp, hk => by
      simp only [runL, Option.some.injEq, Prod.mk.injEq] at h
      obtain ⟨rfl, rfl, rfl⟩ := h
      exact hk
  | o :: l, α, β, p, rest, h, hp, hk => by
      unfold runL at h
      split at h
      · simp only [Option.some.injEq, Prod.mk.injEq] at h
        obtain ⟨rfl, rfl, rfl⟩ := h
        exact hk
      · split at h
        · rename_i p1 β1 h1
          split at h
          · rename_i q γ r h2
            simp only [Option.some.injEq, Prod.mk.injEq] at h
            obtain ⟨rfl, rfl, rfl⟩ := h
            exact AL.step hT (stepL_ok h1 hp.1 (AL.run hT h2 hp.2 hk))
          · cases h
        · cases h
/-- A region without calls. -/
theorem AW.reg (hT : TabOk P T) {id : Nat} {l : List Oper} {Q : AExit → AS → Prop} {α β : AS} {p : Prop} (h : runL T l l α = some (p, β, [])) (hp : p) (hk : Q .normal β) : AW P F (.region id l.toArray false) Q α :=
  AW.region (AL.run hT (by simpa using h) hp (AL.nil hk))
/-- A region up to its first call. -/
theorem AW.regC (hT : TabOk P T) {id : Nat} {l : List Oper} {Q : AExit → AS → Prop} {α β : AS} {p : Prop} {rest : List Oper} (h : runL T l l α = some (p, β, rest)) (hp : p) (hk : AL P F l.toArray Q rest β) : AW P F (.region id l.toArray false) Q α :=
  AW.region (AL.run hT (by simpa using h) hp hk)
theorem AL.runC (hT : TabOk P T) {l : List Oper} {Q : AExit → AS → Prop} {r0 : List Oper} {α β : AS} {p : Prop} {rest : List Oper} (h : runL T l r0 α = some (p, β, rest)) (hp : p) (hk : AL P F l.toArray Q rest β) : AL P F l.toArray Q r0 α :=
  AL.run hT (by simpa using h) hp hk
theorem AL.fin (hT : TabOk P T) {l : List Oper} {Q : AExit → AS → Prop} {r0 : List Oper} {α β : AS} {p : Prop} (h : runL T l r0 α = some (p, β, [])) (hp : p) (hk : Q .normal β) : AL P F l.toArray Q r0 α :=
  AL.run hT (by simpa using h) hp (AL.nil hk)

/-! ### What is known of sizes -/
mutual
def fits : AV → Prop
  | .d (.v (.string s)) => s.size ≤ maxLen
  | .d (.v _) => True
  | .d t => t.len ≤ maxLen
  | .agg xs => fitsL xs
  | .tup xs => fitsL xs
  | _ => True
def fitsL : List AV → Prop
  | [] => True
  | x :: xs => fits x ∧ fitsL xs
end
mutual
theorem fits_ok {S : Nat → Nat → Prop} {w : World} {obs : List Ob} {V : Nat → Value} : ∀ (x : AV) (v : Value), RepA S w obs V x v → fits x
  | .d x, v, h => by
      cases x with
      | v x =>
        cases x with
        | string s => exact Rep.str h
        | _ => trivial
      | _ => exact (Rep.slice rfl h).1
  | .agg xs, v, h => by obtain ⟨vs, _, h2⟩ := h; exact fitsL_ok xs vs h2
  | .tup xs, v, h => by obtain ⟨vs, _, h2⟩ := h; exact fitsL_ok xs vs h2
  | .dead, _, _ => trivial
  | .row _ _, _, _ => trivial
  | .ptr _ _, _, _ => trivial
  | .rptr _ _ _ _, _, _ => trivial
  | .eptr _ _, _, _ => trivial
  | .fn _ _, _, _ => trivial
  | .g _ _, _, _ => trivial
theorem fitsL_ok {S : Nat → Nat → Prop} {w : World} {obs : List Ob} {V : Nat → Value} : ∀ (xs : List AV) (vs : List Value), RepAs S w obs V xs vs → fitsL xs
  | [], _, _ => trivial
  | x :: xs, _, h => by obtain ⟨v, r, rfl, h2, h3⟩ := h; exact ⟨fits_ok x v h2, fitsL_ok xs r h3⟩
end
def fitsO : Ob → Prop
  | .box _ cells => fitsL cells
  | .row _ t _ => t.len ≤ maxLen
  | .set t _ => t.len ≤ maxLen
  | .gone => True
theorem AW.know {c : Code} {Q : AExit → AS → Prop} {α : AS} (h : fitsL α.tmps → AW P F c Q α) : AW P F c Q α := fun a w hr => by
  have hr2 := hr
  obtain ⟨V, S, vs, hst, hd, ha, htm, hkp⟩ := hr
  exact h (fitsL_ok _ _ htm) a w hr2
theorem AW.knowO {c : Code} {Q : AExit → AS → Prop} {α : AS} (o : Nat) {ob : Ob} (ho : α.obs[o]? = some ob) (h : fitsO ob → AW P F c Q α) : AW P F c Q α := fun a w hr => by
  have hr2 := hr
  obtain ⟨V, S, vs, hst, hd, ha, htm, hkp⟩ := hr
  refine h ?_ a w hr2
  have := hst.ob o ob ho
  cases ob with
  | box ty cells => obtain ⟨g, cs, _, _, q, _⟩ := this; exact fitsL_ok _ _ q
  | row e t k =>
    obtain ⟨A, c, _, _, hm, _⟩ := row_slice (o := o) (k := k) hst (by simp [verOf, ho, Ob.ver])
    have e : dtAt α.obs o = t := by simp [dtAt, ho, Ob.dt]
    rw [e] at hm; exact hm
  | set t k =>
    obtain ⟨A, c, _, _, hm, _⟩ := row_slice (o := o) (k := k) hst (by simp [verOf, ho, Ob.ver])
    have e : dtAt α.obs o = t := by simp [dtAt, ho, Ob.dt]
    rw [e] at hm; exact hm
  | gone => trivial
theorem AL.know {os : Array Oper} {Q : AExit → AS → Prop} {rest : List Oper} {α : AS} (h : fitsL α.tmps → AL P F os Q rest α) : AL P F os Q rest α := fun a w hr => by
  have hr2 := hr
  obtain ⟨V, S, vs, hst, hd, ha, htm, hkp⟩ := hr
  exact h (fitsL_ok _ _ htm) a w hr2
end
end Go.Proofs.YtlhfjjkoflpecaaAw

namespace Go.Proofs.YtlhfjjkoflpecaaAw
open Go.RowKit
set_option linter.unusedSimpArgs false
set_option linter.unusedVariables false

/-! ### The table of types, put together -/
theorem mapM_places {P : Program} (w : World) : ∀ (fs : List Field) (offs : List (Nat × Nat)), fs.map (fun f => (f.offset, (P.info? f.type).map (·.size))) = offs.map (fun p => (p.1, some p.2)) →
    Sem.run P (fs.mapM fun f => (do pure (f.offset, ← sizeOf f.type) : Sem (Nat × Nat))) w = .ok offs w
  | [], [], _ => by simp [Sem.run_pure]
  | [], _ :: _, h => by simp at h
  | _ :: _, [], h => by simp at h
  | f :: fs, p :: ps, h => by
      simp only [List.map_cons, List.cons.injEq, Prod.mk.injEq] at h
      obtain ⟨⟨h1, h2⟩, h3⟩ := h
      obtain ⟨q, hq, hs⟩ := Option.map_eq_some_iff.1 h2
      have ih := mapM_places (P := P) w fs ps h3
      have hrun : Sem.run P (do pure (f.offset, ← sizeOf f.type) : Sem (Nat × Nat)) w = .ok p w := by
        simp [sizeOf, typeInfo, hq, h1, hs, go_sem]
      simp only [List.mapM_cons, Sem.run_bind, hrun, Result.andThen_ok, ih, Sem.run_pure]
theorem strt_of {P : Program} {t : TypeId} {fs : Array Field} {offs : List (Nat × Nat)} (h : P.underlying t = some (.struct fs))
    (he : fs.toList.map (fun f => (f.offset, (P.info? f.type).map (·.size))) = offs.map (fun p => (p.1, some p.2))) (hz : offs.all (fun p => p.2 != 0) = true) :
    ∃ fs, P.underlying t = some (.struct fs) ∧ (∀ (k off sz : Nat), offs[k]? = some (off, sz) → ∃ f q, fs[k]? = some f ∧ f.offset = off ∧ P.info? f.type = some q ∧ q.size = sz ∧ sz ≠ 0) ∧
      ∀ w, Sem.run P (fs.mapM fun f => (do pure (f.offset, ← sizeOf f.type) : Sem (Nat × Nat))) w = .ok offs.toArray w := by
  refine ⟨fs, h, fun k off sz hk => ?_, fun w => ?_⟩
  · have h1 : (offs.map (fun p => (p.1, some p.2)))[k]? = some (off, some sz) := by rw [List.getElem?_map, hk]; rfl
    rw [← he, List.getElem?_map] at h1
    obtain ⟨f, hf, h2⟩ := Option.map_eq_some_iff.1 h1
    simp only [Prod.mk.injEq] at h2
    obtain ⟨q, hq, hs⟩ := Option.map_eq_some_iff.1 h2.2
    refine ⟨f, q, by simpa using hf, h2.1, hq, hs, ?_⟩
    have := List.all_eq_true.1 hz (off, sz) (List.mem_of_getElem? hk)
    simpa using this
  · rw [Array.mapM_eq_mapM_toList]
    simp only [map_eq_pure_bind, Sem.run_bind, mapM_places w _ _ he, Result.andThen_ok, Sem.run_pure]

def AllOk (P : Program) : List (Nat × TI) → Prop
  | [] => True
  | p :: r => TOk P p.1 p.2 ∧ AllOk P r
def SlOk (P : Program) (T : TypeId → Option TI) (i : TI) : Prop := i.kind = 3 → ∃ ie, T i.elem = some ie ∧ i.nil.sz = ie.size ∧ CellsLe ie.zero ((i.nil.zeros 0).el 0) ∧ (i.arr = 1 → P.underlying i.elem = some (.int .u8))
def AllSl (P : Program) (T : TypeId → Option TI) : List (Nat × TI) → Prop
  | [] => True
  | p :: r => SlOk P T p.2 ∧ AllSl P T r
def lookT (tab : List (Nat × TI)) (t : Nat) : Option TI :=
  match tab with
  | [] => none
  | p :: r => if p.1 = t then some p.2 else lookT r t
theorem tab_ok {P : Program} {tab : List (Nat × TI)} (h : AllOk P tab) (hs : AllSl P (lookT tab) tab) (hm : P.follows .mixedOrders = true) : TabOk P (lookT tab) := by
  have k1 : ∀ (l : List (Nat × TI)), AllOk P l → ∀ t i, lookT l t = some i → TOk P t i := by
    intro l
    induction l with
    | nil => intro _ t i h; cases h
    | cons p r ih =>
      intro h t i hl
      unfold lookT at hl
      split at hl
      · rename_i e
        simp only [Option.some.injEq] at hl
        subst e; subst hl
        exact h.1
      · exact ih h.2 t i hl
  have k2 : ∀ (l : List (Nat × TI)), AllSl P (lookT tab) l → ∀ t i, lookT l t = some i → SlOk P (lookT tab) i := by
    intro l
    induction l with
    | nil => intro _ t i h; cases h
    | cons p r ih =>
      intro h t i hl
      unfold lookT at hl
      split at hl
      · simp only [Option.some.injEq] at hl
        subst hl
        exact h.1
      · exact ih h.2 t i hl
  exact ⟨k1 tab h, fun t i ht hk => k2 tab hs t i ht hk, hm⟩
theorem RepAs.scalars (S : Nat → Nat → Prop) (w : World) (obs : List Ob) (V : Nat → Value) : ∀ (xs : List Value), xs.all fitV = true → RepAs S w obs V ((xs.map Dt.v).map .d) xs
  | [], _ => rfl
  | x :: xs, h => by
      simp only [List.all_cons, Bool.and_eq_true] at h
      exact ⟨x, xs, rfl, Rep.v x h.1, RepAs.scalars S w obs V xs h.2⟩
section
variable {P : Program}
theorem part_cell {e : TypeId} {d : TypeDesc} (he : P.underlying e = some d) (hd : (match d with | .struct _ => true | .array _ _ => true | _ => false) = false) {xs : Array Value} {off : Nat} {v : Value} (hx : xs[off]? = some v) (w : World) : (part e xs off).run P w = .ok v w := by
  have h : (isAgg e).run P w = .ok false w := by
    simp only [isAgg, Sem.run_bind, run_underlying he, Result.andThen_ok]
    cases d <;> first | rfl | cases hd
  unfold part
  simp only [Sem.run_bind, h, Result.andThen_ok, Bool.false_eq_true, if_false, hx, Sem.run_pure]
theorem eq_struct1 {t : TypeId} {f0 f1 : Field} (hu : P.underlying t = some (.struct #[f0, f1])) (hp : P.stoodInHeld t = false) (hn : f0.name ≠ "_" ∧ f1.name ≠ "_") (ho : f0.offset = 0 ∧ f1.offset = 1) (h0 : P.underlying f0.type = some (.int .i64)) (h1 : P.underlying f1.type = some .string) :
    ∀ (a b : Int) (s r : ByteArray) w, Sem.run P (Op.equalIn 10000 t (.agg #[.int .i64 a, .string s]) (.agg #[.int .i64 b, .string r])) w = .ok (decide (a = b) && decide (s = r)) w := fun a b s r w => by
  have hf : P.fieldsOf t = #[f0, f1] := by unfold Program.fieldsOf; rw [hu]
  rw [run_equalIn_struct w 9999 t _ _ (by rw [hf]; exact hu) hp, hf]
  simp only [Op.eqFields, hn.1, hn.2, ho.1, ho.2, ne_eq, not_false_eq_true, if_true, Sem.run_bind]
  rw [part_cell h0 rfl (v := .int .i64 a) rfl, Result.andThen_ok, part_cell h0 rfl (v := .int .i64 b) rfl, Result.andThen_ok, run_equalIn_int w 9998 _ _ _ _ _ h0, Result.andThen_ok]
  by_cases hab : a = b
  · subst hab
    simp only [BEq.rfl, Bool.not_true, Bool.false_eq_true, if_false, Sem.run_bind]
    rw [part_cell h1 rfl (v := .string s) rfl, Result.andThen_ok, part_cell h1 rfl (v := .string r) rfl, Result.andThen_ok, run_equalIn_string w 9998 _ _ _ h1, Result.andThen_ok, decide_eq_toList]
    by_cases hsr : s = r
    · subst hsr; simp [go_sem]
    · simp [hsr, go_sem]
  · simp [hab, go_sem]
theorem eq_struct2 {t : TypeId} {f0 f1 : Field} (hu : P.underlying t = some (.struct #[f0, f1])) (hp : P.stoodInHeld t = false) (hn : f0.name ≠ "_" ∧ f1.name ≠ "_") (ho : f0.offset = 0 ∧ f1.offset = 1) (h0 : P.underlying f0.type = some (.int .i64)) (h1 : P.underlying f1.type = some (.int .i64)) :
    ∀ (a b c d : Int) w, Sem.run P (Op.equalIn 10000 t (.agg #[.int .i64 a, .int .i64 b]) (.agg #[.int .i64 c, .int .i64 d])) w = .ok (decide (a = c) && decide (b = d)) w := fun a b c d w => by
  have hf : P.fieldsOf t = #[f0, f1] := by unfold Program.fieldsOf; rw [hu]
  rw [run_equalIn_struct w 9999 t _ _ (by rw [hf]; exact hu) hp, hf]
  simp only [Op.eqFields, hn.1, hn.2, ho.1, ho.2, ne_eq, not_false_eq_true, if_true, Sem.run_bind]
  rw [part_cell h0 rfl (v := .int .i64 a) rfl, Result.andThen_ok, part_cell h0 rfl (v := .int .i64 c) rfl, Result.andThen_ok, run_equalIn_int w 9998 _ _ _ _ _ h0, Result.andThen_ok]
  by_cases hab : a = c
  · subst hab
    simp only [BEq.rfl, Bool.not_true, Bool.false_eq_true, if_false, Sem.run_bind]
    rw [part_cell h1 rfl (v := .int .i64 b) rfl, Result.andThen_ok, part_cell h1 rfl (v := .int .i64 d) rfl, Result.andThen_ok, run_equalIn_int w 9998 _ _ _ _ _ h1, Result.andThen_ok]
    by_cases hsr : b = d
    · subst hsr; simp [go_sem]
    · simp [hsr, go_sem]
  · simp [hab, go_sem]
end
end Go.Proofs.YtlhfjjkoflpecaaAw

namespace Go.Proofs.YtlhfjjkoflpecaaAw
open Go.RowKit
set_option linter.unusedSimpArgs false
set_option linter.unusedVariables false

/-! ### Regions whose order is open -/
/-- tm tells no more than tm'. -/
def Wk (tm tm' : List AV) : Prop := tm.length = tm'.length ∧ ∀ (t : Nat) (y : AV), tm[t]? = some y → y = AV.dead ∨ tm'[t]? = some y
theorem Wk.refl (tm : List AV) : Wk tm tm := ⟨rfl, fun _ _ h => .inr h⟩
theorem Wk.reps {S : Nat → Nat → Prop} {w : World} {obs : List Ob} {V : Nat → Value} {tm tm' : List AV} {vs : List Value} (h : Wk tm tm') (hr : RepAs S w obs V tm' vs) : RepAs S w obs V tm vs := by
  refine RepAs.of_get (by rw [h.1]; exact RepAs.length hr) (fun i x v hx hv => ?_)
  rcases h.2 i x hx with rfl | h2
  · trivial
  · obtain ⟨u, h3, h4⟩ := RepAs.get hr i x h2
    rw [hv] at h3
    simp only [Option.some.injEq] at h3; subst h3
    exact h4
def clo (x : AV) : AV := if AV.closed x = true then x else .dead
theorem clo_closed : ∀ (xs : List AV), AV.closedL (xs.map clo) = true
  | [] => rfl
  | x :: xs => by
      simp only [List.map_cons, AV.closedL, clo_closed xs, Bool.and_true]
      unfold clo
      split
      · assumption
      · rfl
theorem Wk.ofClo (tm : List AV) : Wk (tm.map clo) tm := by
  refine ⟨by simp, fun t y h => ?_⟩
  rw [List.getElem?_map] at h
  obtain ⟨x, h1, rfl⟩ := Option.map_eq_some_iff.1 h
  unfold clo
  split
  · exact .inr h1
  · exact .inl rfl

section
variable (P : Program) (T : TypeId → Option TI)
def Q1 (o : Oper) (tm : List AV) (obs : List Ob) (x : AV) : Prop :=
  (∃ p, pureOp T o.op tm obs = some (p, x) ∧ p) ∨
  (∃ c f cap args, o.op = .call c ∧ calleeA tm c = some (f, cap) ∧ calleeO tm c ∧ AV.closedL (callArgs tm c cap) = true ∧ PC P f args (fun r => r = x) ∧ ArgsLe (callArgs tm c cap) args ∧ AV.closed x = true) ∨
  (∃ t len parts i ie d, o.op = .buildSlice t len parts ∧ T t = some i ∧ T i.elem = some ie ∧ i.nil.sz = ie.size ∧ AV.closedL tm = true ∧ buildSliceA i ie.size [] tm len parts.toList = some (True, .row 0 0, [.row i.elem d 0]) ∧ x = .d d)
def Q0 (os : List Oper) (o : Oper) (tm : List AV) (obs : List Ob) (x : AV) : Prop :=
  guardB os tm o.guard = some none ∧ Q1 P T o tm obs x ∨ ∃ G y, guardB os tm o.guard = some (some G) ∧ x = .g G y ∧ (G = true → Q1 P T o tm obs y)
def QStp (os : List Oper) (o : Oper) (tm : List AV) (obs : List Ob) (x : AV) : Prop := ∃ tm', Wk tm' tm ∧ Q0 P T os o tm' obs x
end

section
variable {P : Program} {F : Fr} {T : TypeId → Option TI} {S S' : Nat → Nat → Prop} {w w' : World} {obs : List Ob} {V : Nat → Value}

theorem Q1_ok (hT : TabOk P T) (hst : St F.w0 F.X F.S0 obs V S w) {tm : List AV} {vs : List Value} {a : Act} (ha : a.tmps = vs.toArray) (htm : RepAs S w obs V tm vs) {o : Oper} {x : AV} (h : Q1 P T o tm obs x)
    {K : Act → World → Prop} {Q : Exit → Act → World → Prop} (hK : ∀ v w' S', St F.w0 F.X F.S0 obs V S' w' → Mov S w obs V S' w' obs V → RepA S' w' obs V x v → K (a.put o.dst v) w') : o.wp P a w K Q := by
  rcases h with ⟨p, h1, hp⟩ | ⟨c, f, cap, args, ho, hc, hp, hcl, hPC, hle, hx⟩ | ⟨t, len, parts, i, ie, d, ho, hi, hie, hsz, hcl, hb, rfl⟩
  · obtain ⟨v, h2, h3⟩ := pureOp_ok hT hst ha htm o h1 hp
    unfold Oper.wp
    rw [h2]
    exact hK v w S hst (Mov.refl _ _ _ _) h3
  · obtain ⟨us, hrun, hus⟩ := call_run (P := P) ho ha htm hp hc hPC.1
    have hargs0 : RepAs S w [] V args us := hle _ _ _ _ _ (closed_reps _ us hcl hus)
    unfold Oper.wp
    rw [hrun]
    refine Calls.mono (hPC.2 S w V us (hst.initial V) hargs0) fun e w' hh => ?_
    obtain ⟨v, S2, V2, objs', r, rfl, ⟨hcr, rfl⟩, st2, hrep, _⟩ := hh
    have hb : Below w.heap.size w w' := st2.keep.below (fun k hk => by obtain ⟨o, ob, h1, _⟩ := hk; simp at h1)
    obtain ⟨st3, mv3⟩ := hst.more hb st2.s0 (fun b j hj => by
      rcases st2.snew b j hj with h | h | ⟨o, ob, h1, _⟩
      · exact .inl h
      · exact .inr h
      · simp at h1) st2.sheap
    exact hK v w' S2 st3 mv3 (closed_rep _ v hcr hrep)
  · have hin := hst.initial V
    have htm0 : RepAs S w [] V tm vs := closed_reps tm vs hcl htm
    let F' : Fr := ⟨w, ownX [] V, S, 0, V⟩
    have ho0 := OutN.of (buildSliceA_ok (P := P) (F := F') (S := S) (w := w) (obs := []) (V := V) hin (hT.ok _ _ hi) (hT.ok _ _ hie) hsz ha htm0 hb)
    have ho1 : OutN P F' [] V S w (execOp a.eval o) (.row 0 0) [.row i.elem d 0] := by unfold execOp; rw [ho]; exact ho0
    obtain ⟨n, v, w1, V1, S1, h1, hn, h2, h3, h4⟩ := ho1
    obtain ⟨V2, S2, b1, b2, b3⟩ := freeze1_ok (F := F') h2 h4 (d := d) (obs' := [.set d 0]) (by simp [freeze1])
    have hb : Below w.heap.size w w1 := b1.keep.below (fun k hk => by obtain ⟨o, ob, h1, _⟩ := hk; simp at h1)
    obtain ⟨st3, mv3⟩ := hst.more hb b1.s0 (fun b j hj => by
      rcases b1.snew b j hj with h | h | ⟨o, ob, h1, _⟩
      · exact .inl h
      · exact .inr h
      · simp at h1) b1.sheap
    unfold Oper.wp
    rw [h1]
    rcases hn with rfl | ⟨rfl, rfl⟩
    · exact hK v w1 S2 st3 mv3 b3
    · exact hK undef w1 S2 st3 mv3 b3

theorem QStp_ok (hT : TabOk P T) {os : Array Oper} {o : Oper} {α : AS} {x : AV} (h : QStp P T os.toList o α.tmps α.obs x) {a : Act} (hr : Rel F α a w) {i : Nat} (hi : os[i]? = some o)
    {K : Act → World → Prop} {Q : Exit → Act → World → Prop} (hK : ∀ a' w', Rel F ⟨putT α.tmps o.dst x, α.obs⟩ a' w' → K a' w') : wpOp P os Q i K a w := by
  obtain ⟨V, S, vs, hst, hd, ha, htm, hkp⟩ := hr
  obtain ⟨tm', hwk, h⟩ := h
  have htm' := hwk.reps htm
  obtain ⟨g1, g2⟩ := guard_wanted (os := os) ha htm' o
  unfold wpOp
  rw [hi]
  simp only
  rcases h with ⟨hg, h⟩ | ⟨G, y, hg, rfl, h⟩
  · rw [if_pos (g1 hg)]
    exact .inl (Q1_ok hT hst ha htm' h fun v w' S' st mv hx => hK _ _ (Rel.put (α := α) st hd ha (mv.all htm) hkp o.dst hx))
  · rw [g2 G hg]
    cases G with
    | true =>
      rw [if_pos rfl]
      exact .inl (Q1_ok hT hst ha htm' (h rfl) fun v w' S' st mv hx => hK _ _ (Rel.put (α := α) st hd ha (mv.all htm) hkp o.dst (x := .g true y) (And.intro (fun _ => hx) (fun e => nomatch e))))
    | false =>
      rw [if_neg (by simp)]
      exact hK _ _ (Rel.put (α := α) (a := a) hst hd ha htm hkp o.dst (x := .g false y) (v := undef) (And.intro (fun e => nomatch e) (fun _ => rfl)))
end

/-! ### What an operation does not look at makes no difference -/
section
variable {P : Program} {F : Fr} {T : TypeId → Option TI} {obs : List Ob}
theorem fieldsA_congr (i : TI) {tm tm' : List AV} : ∀ (parts : List (Nat × Operand)) (acc : List AV), (∀ p ∈ parts, opv tm p.2 = opv tm' p.2) → fieldsA i obs tm acc parts = fieldsA i obs tm' acc parts
  | [], acc, _ => rfl
  | (f, x) :: r, acc, h => by
      unfold fieldsA
      rw [h (f, x) (by simp)]
      cases i.offs[f]? with
      | none => rfl
      | some q =>
        obtain ⟨off, sz⟩ := q
        simp only
        cases cellsOf (opv tm' x) with
        | none => rfl
        | some ys =>
          simp only
          rw [fieldsA_congr i r _ (fun p hp => h p (by simp [hp]))]
theorem pureOp_congr {o : Op} {tm tm' : List AV} (h : ∀ y ∈ o.operands.toList, opv tm y = opv tm' y) : pureOp T o tm obs = pureOp T o tm' obs := by
  have hs : ∀ y ∈ o.operands.toList, ops tm y = ops tm' y := fun y hy => by unfold ops; rw [h y hy]
  have ho : ∀ y ∈ o.operands.toList, opo tm y = opo tm' y := fun y hy => by unfold opo; rw [h y hy]
  cases o <;> try rfl
  case move x => simp only [pureOp, hs x (by simp [Op.operands]), ho x (by simp [Op.operands])]
  case assign x => simp only [pureOp, hs x (by simp [Op.operands]), ho x (by simp [Op.operands])]
  case pick c a b => simp only [pureOp, hs c (by simp [Op.operands]), ho c (by simp [Op.operands]), h a (by simp [Op.operands]), h b (by simp [Op.operands])]
  case build t parts =>
    simp only [pureOp]
    cases T t with
    | none => rfl
    | some i =>
      simp only [buildA]
      rw [fieldsA_congr i parts.toList _ (fun p hp => h p.2 (by simp only [Op.operands]; exact List.mem_map_of_mem hp))]
  case load t x => simp only [pureOp, hs x (by simp [Op.operands]), ho x (by simp [Op.operands])]
  case nilCheck x => simp only [pureOp, hs x (by simp [Op.operands]), ho x (by simp [Op.operands])]
  case binOp op t x y t' => simp only [pureOp, hs x (by simp [Op.operands]), ho x (by simp [Op.operands]), hs y (by simp [Op.operands]), ho y (by simp [Op.operands])]
  case unOp op t x => simp only [pureOp, hs x (by simp [Op.operands]), ho x (by simp [Op.operands])]
  case convert s d x => simp only [pureOp, hs x (by simp [Op.operands]), ho x (by simp [Op.operands])]
  case fieldAddr s x f => simp only [pureOp, hs x (by simp [Op.operands]), ho x (by simp [Op.operands])]
  case indexAddr t x y => simp only [pureOp, hs x (by simp [Op.operands]), ho x (by simp [Op.operands]), hs y (by simp [Op.operands]), ho y (by simp [Op.operands])]
  case index t x y => simp only [pureOp, hs x (by simp [Op.operands]), ho x (by simp [Op.operands]), hs y (by simp [Op.operands]), ho y (by simp [Op.operands])]
  case extract x ix => simp only [pureOp, hs x (by simp [Op.operands]), ho x (by simp [Op.operands])]
  case slice t x lo hi mx =>
    cases mx with
    | some m => rfl
    | none =>
      have e1 : lo.map (ops tm) = lo.map (ops tm') := by
        cases lo with
        | none => rfl
        | some y => simp only [Option.map_some, hs y (by simp [Op.operands])]
      have e2 : hi.map (ops tm) = hi.map (ops tm') := by
        cases hi with
        | none => rfl
        | some y => simp only [Option.map_some, hs y (by simp [Op.operands])]
      have e3 : (∀ y, lo = some y → opo tm y) = (∀ y, lo = some y → opo tm' y) := by
        cases lo with
        | none => simp
        | some y => simp [ho y (by simp [Op.operands])]
      have e4 : (∀ y, hi = some y → opo tm y) = (∀ y, hi = some y → opo tm' y) := by
        cases hi with
        | none => simp
        | some y => simp [ho y (by simp [Op.operands])]
      simp only [pureOp, hs x (by simp [Op.operands]), ho x (by simp [Op.operands]), e1, e2, e3, e4]
  case makeFunc fo first captured =>
    cases fo <;> try rfl
    simp only [pureOp]
    rw [List.map_congr_left (fun y hy => h y (by simp only [Op.operands, Array.toList_append]; exact List.mem_append_right _ hy))]
  case call c =>
    obtain ⟨callee, args, argTypes⟩ := c
    cases callee <;> try rfl
    rename_i b
    have hm : ∀ y ∈ args.toList, y ∈ (Op.operands (.call ⟨.builtin b, args, argTypes⟩)).toList := fun y hy => by simp only [Op.operands, Call.operands, Array.toList_append]; exact List.mem_append_right _ hy
    cases b <;> try rfl
    all_goals
      simp only [pureOp]
      match hargs : args.toList, htys : argTypes.toList with
      | [], _ => rfl
      | [x], [ty] => first | done | rfl | (simp only [hs x (hm x (by rw [hargs]; simp)), ho x (hm x (by rw [hargs]; simp))])
      | [x], [] => rfl
      | [x], _ :: _ :: _ => rfl
      | [x, y], _ => first | rfl | (simp only [hs x (hm x (by rw [hargs]; simp)), ho x (hm x (by rw [hargs]; simp)), hs y (hm y (by rw [hargs]; simp)), ho y (hm y (by rw [hargs]; simp))])
      | _ :: _ :: _ :: _, _ => rfl

theorem opv_put {tm : List AV} {dst : Option Tmp} {x : AV} {y : Operand} (h : ∀ d, dst = some d → y ≠ .tmp d) : opv (putT tm dst x) y = opv tm y := by
  cases dst with
  | none => rfl
  | some d =>
    cases y with
    | tmp t =>
      have hne : d ≠ t := fun e => h d rfl (e ▸ rfl)
      simp [opv, putT, List.getD_eq_getElem?_getD, List.getElem?_set_ne hne]
    | _ => rfl
theorem looks_ne {os : Array Oper} {o : Oper} {dst : Option Tmp} (h : ∀ d, dst = some d → d ∉ o.looksAt os) : ∀ y ∈ o.op.operands.toList, ∀ d, dst = some d → y ≠ .tmp d := fun y hy d hd e => h d hd (by
  subst e
  exact List.mem_append_left _ (List.mem_filterMap.2 ⟨.tmp d, hy, rfl⟩))
theorem guardB_put {os : Array Oper} {o : Oper} {tm : List AV} {dst : Option Tmp} {x : AV} (h : ∀ d, dst = some d → d ∉ o.looksAt os) : guardB os.toList (putT tm dst x) o.guard = guardB os.toList tm o.guard := by
  cases dst with
  | none => rfl
  | some d =>
    unfold guardB
    cases hg : o.guard with
    | none => rfl
    | some gw =>
      obtain ⟨g, want⟩ := gw
      simp only
      have e : os.toList[g]? = os[g]? := by simp
      rw [e]
      cases ht : (os[g]?).bind (·.dst) with
      | none => rfl
      | some t =>
        have hne : d ≠ t := fun e => h d rfl (by subst e; simp [Oper.looksAt, hg, ht])
        simp only [putT, List.getD_eq_getElem?_getD, List.getElem?_set_ne hne]
theorem closedL_set : ∀ (tm : List AV) (d : Nat), AV.closedL tm = true → AV.closedL (tm.set d .dead) = true
  | [], _, h => h
  | x :: xs, 0, h => by simp only [AV.closedL, Bool.and_eq_true] at h; simp [AV.closedL, AV.closed, h.2]
  | x :: xs, d + 1, h => by simp only [AV.closedL, Bool.and_eq_true] at h; simp [AV.closedL, h.1, closedL_set xs d h.2]
theorem Q1.mask {os : Array Oper} {o : Oper} {tm : List AV} {dst : Option Tmp} {x : AV} (h : ∀ d, dst = some d → d ∉ o.looksAt os) (hq : Q1 P T o tm obs x) : Q1 P T o (putT tm dst .dead) obs x := by
  have hv : ∀ y ∈ o.op.operands.toList, opv (putT tm dst .dead) y = opv tm y := fun y hy => opv_put (looks_ne h y hy)
  have hs : ∀ y ∈ o.op.operands.toList, ops (putT tm dst .dead) y = ops tm y := fun y hy => by unfold ops; rw [hv y hy]
  have ho : ∀ y ∈ o.op.operands.toList, opo (putT tm dst .dead) y = opo tm y := fun y hy => by unfold opo; rw [hv y hy]
  rcases hq with ⟨p, h1, hp⟩ | ⟨c, f, cap, args, hop, hc, hp, hcl, hr⟩ | ⟨t, len, parts, i, ie, d, hop, hi, hie, hsz, hcl, hb, rfl⟩
  · exact .inl ⟨p, by rw [pureOp_congr hv]; exact h1, hp⟩
  · have hm : ∀ y ∈ c.args.toList, y ∈ o.op.operands.toList := fun y hy => by rw [hop]; simp only [Op.operands, Call.operands, Array.toList_append]; exact List.mem_append_right _ hy
    have e1 : calleeA (putT tm dst .dead) c = calleeA tm c := by
      obtain ⟨callee, args, at_⟩ := c
      cases callee <;> try rfl
      rename_i y
      simp only [calleeA]
      rw [hs y (by rw [hop]; simp [Op.operands, Call.operands])]
    have e2 : callArgs (putT tm dst .dead) c cap = callArgs tm c cap := by
      unfold callArgs
      rw [List.map_congr_left (fun y hy => hs y (hm y hy))]
    have e3 : calleeO (putT tm dst .dead) c := by
      obtain ⟨q1, q2⟩ := hp
      refine ⟨?_, ?_⟩
      · obtain ⟨callee, args, at_⟩ := c
        cases callee <;> try trivial
        rename_i y
        simp only at q1 ⊢
        rw [ho y (by rw [hop]; simp [Op.operands, Call.operands])]; exact q1
      · have : ∀ (xs : List Operand), (∀ y ∈ xs, y ∈ o.op.operands.toList) → opoL tm xs → opoL (putT tm dst .dead) xs := by
          intro xs
          induction xs with
          | nil => intro _ _; trivial
          | cons y ys ih => exact fun hm hh => ⟨by rw [ho y (hm y (by simp))]; exact hh.1, ih (fun z hz => hm z (by simp [hz])) hh.2⟩
        exact this _ hm q2
    exact .inr (.inl ⟨c, f, cap, args, hop, by rw [e1]; exact hc, e3, by rw [e2]; exact hcl, by rw [e2]; exact hr⟩)
  · refine .inr (.inr ⟨t, len, parts, i, ie, d, hop, hi, hie, hsz, ?_, ?_, rfl⟩)
    · cases dst with
      | none => exact hcl
      | some d => exact closedL_set tm d hcl
    · unfold buildSliceA at hb ⊢
      have e : parts.toList.map (fun p => opv (putT tm dst .dead) p.2) = parts.toList.map (fun p => opv tm p.2) :=
        List.map_congr_left (fun p hp => hv p.2 (by rw [hop]; simp only [Op.operands]; exact List.mem_map_of_mem hp))
      rw [e]; exact hb
theorem Q0.mask {os : Array Oper} {o : Oper} {tm : List AV} {dst : Option Tmp} {x : AV} (h : ∀ d, dst = some d → d ∉ o.looksAt os) (hq : Q0 P T os.toList o tm obs x) : Q0 P T os.toList o (putT tm dst .dead) obs x := by
  rcases hq with ⟨hg, h1⟩ | ⟨G, y, hg, rfl, h1⟩
  · exact .inl ⟨by rw [guardB_put h]; exact hg, Q1.mask h h1⟩
  · exact .inr ⟨G, y, by rw [guardB_put h]; exact hg, rfl, fun e => Q1.mask h (h1 e)⟩
theorem putT_len (tm : List AV) (d : Option Tmp) (x : AV) : (putT tm d x).length = tm.length := by cases d <;> simp [putT]
theorem QStp.swap {os : Array Oper} {oi oj : Oper} {xi xj : AV} {tm : List AV} (hap : oi.apart os oj = true) (hi : QStp P T os.toList oi tm obs xi) (hj : QStp P T os.toList oj (putT tm oi.dst xi) obs xj) :
    QStp P T os.toList oj tm obs xj ∧ QStp P T os.toList oi (putT tm oj.dst xj) obs xi ∧ putT (putT tm oj.dst xj) oi.dst xi = putT (putT tm oi.dst xi) oj.dst xj := by
  obtain ⟨h1, h2, h3⟩ := Oper.apart_spec hap
  refine ⟨?_, ?_, ?_⟩
  · obtain ⟨tm', hw, hq⟩ := hj
    refine ⟨putT tm' oi.dst .dead, ⟨by rw [putT_len, hw.1, putT_len], fun t y hy => ?_⟩, Q0.mask h1 hq⟩
    cases hd : oi.dst with
    | none =>
      rw [hd] at hy hw
      exact hw.2 t y hy
    | some d =>
      rw [hd] at hy hw
      simp only [putT] at hy hw
      by_cases e : d = t
      · subst e
        by_cases hl : d < tm'.length
        · rw [List.getElem?_set_self hl] at hy
          simp only [Option.some.injEq] at hy; exact .inl hy.symm
        · rw [List.getElem?_eq_none (by rw [List.length_set]; exact Nat.not_lt.1 hl)] at hy; cases hy
      · rw [List.getElem?_set_ne e] at hy
        have := hw.2 t y hy
        rw [List.getElem?_set_ne e] at this
        exact this
  · obtain ⟨tm', hw, hq⟩ := hi
    refine ⟨putT tm' oj.dst .dead, ⟨by rw [putT_len, hw.1, putT_len], fun t y hy => ?_⟩, Q0.mask h3 hq⟩
    cases hd : oj.dst with
    | none =>
      rw [hd] at hy
      exact hw.2 t y hy
    | some d =>
      rw [hd] at hy
      simp only [putT] at hy ⊢
      by_cases e : d = t
      · subst e
        by_cases hl : d < tm'.length
        · rw [List.getElem?_set_self hl] at hy
          simp only [Option.some.injEq] at hy; exact .inl hy.symm
        · rw [List.getElem?_eq_none (by rw [List.length_set]; exact Nat.not_lt.1 hl)] at hy; cases hy
      · rw [List.getElem?_set_ne e] at hy
        rw [List.getElem?_set_ne e]
        exact hw.2 t y hy
  · cases hd : oi.dst with
    | none => rfl
    | some d =>
      cases hd' : oj.dst with
      | none => rfl
      | some d' =>
        have : d ≠ d' := fun e => h2 d hd (by rw [hd', e])
        simp only [putT]
        exact List.set_comm _ _ (Ne.symm this)
end
end Go.Proofs.YtlhfjjkoflpecaaAw

namespace Go.Proofs.YtlhfjjkoflpecaaAw
open Go.RowKit
set_option linter.unusedSimpArgs false
set_option linter.unusedVariables false

/-! ### Which operations stand before which -/
def maskE (acc : List Nat) : List Edge → Nat → Nat
  | [], s => s
  | e :: r, s => maskE acc r (if Region.binds .any e = true then s ||| ((2 ^ e.on) ||| acc.getD e.on 0) else s)
def befL : List Oper → List Nat → List Nat
  | [], acc => acc
  | o :: r, acc => befL r (acc ++ [maskE acc o.after.toList 0])
def checkFrom (os : List Oper) (b : List Nat) (m : Nat) : Nat → List Oper → Bool
  | _, [] => true
  | i, o :: r =>
    o.after.toList.all (fun e => !Region.binds .any e || decide (e.on < i)) &&
    (List.range i).all (fun k => (b.getD i 0).testBit k || (decide (i < m) && match os[k]? with | some ok => ok.apart os.toArray o | none => false)) &&
    checkFrom os b m (i + 1) r
/-- The first m operations come in any order that the edges allow; those that are not tied are apart. The others come one after the other. -/
def drawB (m : Nat) (l : List Oper) : Bool := checkFrom l (befL l []) m 0 l && decide (m ≤ l.length)

theorem maskE_spec {L : Nat → Prop} {acc : List Nat} (hacc : ∀ j k, (acc.getD j 0).testBit k = true → L j → L k) : ∀ (es : List Edge) (s : Nat), (∀ k, s.testBit k = true → L k) → (∀ e ∈ es, Region.binds .any e = true → L e.on) →
    ∀ k, (maskE acc es s).testBit k = true → L k
  | [], s, hs, _, k, hk => hs k hk
  | e :: r, s, hs, he, k, hk => by
      unfold maskE at hk
      refine maskE_spec hacc r _ (fun k hk => ?_) (fun e' h' => he e' (by simp [h'])) k hk
      split at hk
      · rename_i hb
        have hL := he e (by simp) hb
        rw [Nat.testBit_or, Nat.testBit_or, Bool.or_eq_true, Bool.or_eq_true] at hk
        rcases hk with hk | hk | hk
        · exact hs k hk
        · rw [Nat.testBit_two_pow] at hk
          have : e.on = k := by simpa using hk
          rw [← this]; exact hL
        · exact hacc _ k hk hL
      · exact hs k hk
theorem befL_spec {L : Nat → Prop} {ops : List Oper} (hL : ∀ i o, ops[i]? = some o → L i → ∀ e ∈ o.after.toList, Region.binds .any e = true → L e.on) : ∀ (l : List Oper) (acc : List Nat), (∀ j, l[j]? = ops[acc.length + j]?) →
    (∀ i o, ops[i]? = some o → i < acc.length → (∀ e ∈ o.after.toList, Region.binds .any e = true → L e.on) → ∀ k, (acc.getD i 0).testBit k = true → L k) →
    ∀ i o, ops[i]? = some o → i < acc.length + l.length → (∀ e ∈ o.after.toList, Region.binds .any e = true → L e.on) → ∀ k, ((befL l acc).getD i 0).testBit k = true → L k
  | [], acc, _, ha, i, o, ho, hi, he, k, hk => ha i o ho (by simpa using hi) he k hk
  | o :: r, acc, hl, ha, i, o', ho', hi, he, k, hk => by
      unfold befL at hk
      have h0 : ops[acc.length]? = some o := by simpa using (hl 0).symm
      have hacc : ∀ j k, (acc.getD j 0).testBit k = true → L j → L k := fun j k hk hj => by
        by_cases hlt : j < acc.length
        · have hjl : j < ops.length := by have := (List.getElem?_eq_some_iff.1 h0).1; omega
          have e1 : ops[j]? = some (ops[j]'hjl) := List.getElem?_eq_getElem hjl
          exact ha j _ e1 hlt (hL j _ e1 hj) k hk
        · rw [List.getD_eq_getElem?_getD, List.getElem?_eq_none (by omega)] at hk; simp at hk
      refine befL_spec hL r _ (fun j => ?_) (fun i o2 ho2 hi he k hk => ?_) i o' ho' (by simp only [List.length_append, List.length_cons, List.length_nil] at hi ⊢; omega) he k hk
      · have := hl (j + 1)
        rw [List.length_append]
        simpa [Nat.add_assoc, Nat.add_comm 1 j] using this
      · rw [List.getD_eq_getElem?_getD] at hk
        by_cases hlt : i < acc.length
        · rw [List.getElem?_append_left hlt, ← List.getD_eq_getElem?_getD] at hk
          exact ha i o2 ho2 hlt he k hk
        · have hie : i = acc.length := by simp only [List.length_append, List.length_cons, List.length_nil] at hi; omega
          subst hie
          rw [List.getElem?_append_right (Nat.le_refl _)] at hk
          rw [h0] at ho2
          simp only [Option.some.injEq] at ho2; subst ho2
          simp only [Nat.sub_self, List.getElem?_cons_zero, Option.getD_some] at hk
          exact maskE_spec hacc _ 0 (fun k hk => by simp at hk) he k hk
theorem checkFrom_spec {os : List Oper} {b : List Nat} {m : Nat} : ∀ (l : List Oper) (i0 : Nat), checkFrom os b m i0 l = true → ∀ j o, l[j]? = some o →
    (∀ e ∈ o.after.toList, Region.binds .any e = true → e.on < i0 + j) ∧ ∀ k, k < i0 + j → (b.getD (i0 + j) 0).testBit k = true ∨ (i0 + j < m ∧ ∃ ok, os[k]? = some ok ∧ ok.apart os.toArray o = true)
  | [], _, _, j, o, hj => by simp at hj
  | o :: r, i0, h, j, o', hj => by
      simp only [checkFrom, Bool.and_eq_true] at h
      obtain ⟨⟨h1, h2⟩, h3⟩ := h
      cases j with
      | zero =>
        simp only [List.getElem?_cons_zero, Option.some.injEq] at hj; subst hj
        refine ⟨fun e he hb => ?_, fun k hk => ?_⟩
        · have := List.all_eq_true.1 h1 e he
          simpa [hb] using this
        · have := List.all_eq_true.1 h2 k (List.mem_range.2 hk)
          simp only [Bool.or_eq_true, Bool.and_eq_true, decide_eq_true_eq] at this
          rcases this with h | ⟨h, h'⟩
          · exact .inl h
          · refine .inr ⟨h, ?_⟩
            split at h'
            · rename_i ok hok; exact ⟨ok, hok, h'⟩
            · cases h'
      | succ j =>
        have := checkFrom_spec r (i0 + 1) h3 j o' (by simpa using hj)
        have e : i0 + (j + 1) = i0 + 1 + j := by omega
        rw [e]; exact this

section
variable (P : Program) (T : TypeId → Option TI)
/-- The operations in their order. -/
def DL (os : List Oper) (obs : List Ob) (K : List AV → Prop) : List Oper → List AV → Prop
  | [], tm => K tm
  | o :: r, tm => ∃ x, QStp P T os o tm obs x ∧ DL os obs K r (putT tm o.dst x)
def DLi (os : List Oper) (obs : List Ob) (K : List AV → Prop) : List Nat → List AV → Prop
  | [], tm => K tm
  | i :: r, tm => ∃ o x, os[i]? = some o ∧ QStp P T os o tm obs x ∧ DLi os obs K r (putT tm o.dst x)
end
section
variable {P : Program} {F : Fr} {T : TypeId → Option TI} {obs : List Ob} {K : List AV → Prop}
theorem DL.toI {os : List Oper} : ∀ (l : List Oper) (i : Nat) (tm : List AV), (∀ j, j < l.length → l[j]? = os[i + j]?) → DL P T os obs K l tm → DLi P T os obs K (List.range' i l.length) tm
  | [], i, tm, _, h => h
  | o :: r, i, tm, hl, h => by
      obtain ⟨x, h1, h2⟩ := h
      refine ⟨o, x, by simpa using (hl 0 (by simp)).symm, h1, DL.toI r (i + 1) _ (fun j hj => ?_) h2⟩
      have := hl (j + 1) (by simp; omega)
      simpa [Nat.add_assoc, Nat.add_comm 1 j] using this
theorem DLi.pull {os : Array Oper} {i : Nat} {oi : Oper} (hi : os.toList[i]? = some oi) : ∀ (r1 r2 : List Nat) (tm : List AV), (∀ k ∈ r1, ∀ ok, os.toList[k]? = some ok → ok.apart os oi = true) → DLi P T os.toList obs K (r1 ++ i :: r2) tm →
    ∃ x, QStp P T os.toList oi tm obs x ∧ DLi P T os.toList obs K (r1 ++ r2) (putT tm oi.dst x)
  | [], r2, tm, _, h => by
      obtain ⟨o, x, h1, h2, h3⟩ := h
      rw [hi] at h1
      simp only [Option.some.injEq] at h1; subst h1
      exact ⟨x, h2, h3⟩
  | k :: r1, r2, tm, hap, h => by
      obtain ⟨o, x, h1, h2, h3⟩ := h
      obtain ⟨y, h4, h5⟩ := DLi.pull hi r1 r2 _ (fun k' hk' => hap k' (by simp [hk'])) h3
      obtain ⟨s1, s2, s3⟩ := QStp.swap (hap k (by simp) o h1) h2 h4
      exact ⟨y, s1, o, x, h1, s2, by rw [s3]; exact h5⟩

/-- Listed so far. -/
def Lst (listed : Array Bool) (i : Nat) : Prop := listed.getD i false = true
theorem lst_or {listed : Array Bool} {n i : Nat} (hs : listed.size = n) (hi : i < n) : (listed.getD i true = false ∧ ¬ Lst listed i) ∨ Lst listed i := by
  unfold Lst
  have hi' : i < listed.size := by omega
  simp only [Array.getD_eq_getD_getElem?, Array.getElem?_eq_getElem hi', Option.getD_some]
  cases listed[i] <;> simp
theorem lst_lt {listed : Array Bool} {i : Nat} (h : Lst listed i) : i < listed.size := by
  unfold Lst at h
  rcases Nat.lt_or_ge i listed.size with h' | h'
  · exact h'
  · simp [Array.getElem?_eq_none h'] at h
theorem not_lst {listed : Array Bool} {i : Nat} (h : listed.getD i true = false) : i < listed.size ∧ ¬ Lst listed i := by
  unfold Lst
  rcases Nat.lt_or_ge i listed.size with h' | h'
  · simp only [Array.getD_eq_getD_getElem?, Array.getElem?_eq_getElem h', Option.getD_some] at h ⊢
    exact ⟨h', by simp [h]⟩
  · simp [Array.getElem?_eq_none h'] at h
theorem lst_set {listed : Array Bool} {i j : Nat} (hi : i < listed.size) : Lst (listed.setIfInBounds i true) j ↔ j = i ∨ Lst listed j := by
  by_cases h : i = j
  · subst h
    simp [Lst, hi]
  · unfold Lst
    rw [getD_set_ne false h]
    exact ⟨.inr, fun hh => hh.resolve_left (fun e => h e.symm)⟩
/-- Closed under what stands before. -/
def Dn (os : Array Oper) (listed : Array Bool) : Prop := ∀ i o, os.toList[i]? = some o → Lst listed i → ∀ e ∈ o.after.toList, Region.binds .any e = true → Lst listed e.on

structure Chk (os : Array Oper) (m : Nat) : Prop where
  edge : ∀ i o, os.toList[i]? = some o → ∀ e ∈ o.after.toList, Region.binds .any e = true → e.on < i
  bef : ∀ listed, Dn os listed → ∀ i o, os.toList[i]? = some o → (∀ e ∈ o.after.toList, Region.binds .any e = true → Lst listed e.on) → ∀ k, k < i → Lst listed k ∨ (i < m ∧ ∃ ok, os.toList[k]? = some ok ∧ ok.apart os o = true)
  le : m ≤ os.size
theorem Chk.of {l : List Oper} {m : Nat} (h : drawB m l = true) : Chk l.toArray m := by
  simp only [drawB, Bool.and_eq_true, decide_eq_true_eq] at h
  have hs := checkFrom_spec l 0 h.1
  simp only [Nat.zero_add] at hs
  refine ⟨fun i o ho => (hs i o (by simpa using ho)).1, fun listed hd i o ho he k hk => ?_, by simpa using h.2⟩
  have ho' : l[i]? = some o := by simpa using ho
  rcases (hs i o ho').2 k hk with h1 | ⟨h1, ok, h2, h3⟩
  · refine .inl (befL_spec (L := Lst listed) (ops := l) (fun i o ho => hd i o (by simpa using ho)) l [] (fun j => by simp) (fun i o _ hi => by simp at hi) i o ho' ?_ he k h1)
    have := (List.getElem?_eq_some_iff.1 ho').1
    simpa using this
  · exact .inr ⟨h1, ok, by simpa using h2, h3⟩

theorem ready_spec {os : Array Oper} {listed : Array Bool} {i : Nat} (h : i ∈ Region.ready .any os listed) : i < listed.size ∧ ¬ Lst listed i ∧ ∃ o, os.toList[i]? = some o ∧ ∀ e ∈ o.after.toList, Region.binds .any e = true → Lst listed e.on := by
  obtain ⟨h1, o, h2, h3⟩ := mem_ready.1 h
  obtain ⟨h4, h5⟩ := not_lst h1
  exact ⟨h4, h5, o, by simpa using h2, fun e he => h3 e (by simpa using he)⟩
theorem Dn.set {os : Array Oper} {listed : Array Bool} (hd : Dn os listed) {i : Nat} (hi : i < listed.size) {o : Oper} (ho : os.toList[i]? = some o) (he : ∀ e ∈ o.after.toList, Region.binds .any e = true → Lst listed e.on) : Dn os (listed.setIfInBounds i true) := by
  intro j o' ho' hj e he' hb
  rw [lst_set hi] at hj ⊢
  rcases hj with rfl | hj
  · rw [ho] at ho'
    simp only [Option.some.injEq] at ho'; subst ho'
    exact .inr (he e he' hb)
  · exact .inr (hd j o' ho' hj e he' hb)
/-- The least one that is not listed is ready. -/
theorem ready_least {os : Array Oper} {m : Nat} (hc : Chk os m) {listed : Array Bool} (hs : listed.size = os.size) {i : Nat} (hi : i < os.size) (hn : ¬ Lst listed i) (hl : ∀ k, k < i → Lst listed k) : i ∈ Region.ready .any os listed := by
  have ho : os.toList[i]? = some os[i] := by simp [hi]
  refine mem_ready.2 ⟨?_, os[i], by simp [hi], fun e he hb => hl _ (hc.edge i _ ho e (by simpa using he) hb)⟩
  rcases lst_or hs hi with h | h
  · exact h.1
  · exact (hn h).elim

theorem any2 {os : Array Oper} {m : Nat} (hc : Chk os m) {Q : Exit → Act → World → Prop} : ∀ (rest : List Oper) (j : Nat) (listed : Array Bool) (a : Act) (w : World), rest = os.toList.drop j → m ≤ j → listed.size = os.size → (∀ k, k < os.size → (Lst listed k ↔ k < j)) → Dn os listed →
    wpList P os Q rest a w → wpAny P .any os Q rest.length listed a w
  | [], j, listed, a, w, hr, hm, hs, hl, hd, h => by
      refine ⟨?_, h⟩
      rcases List.eq_nil_or_concat (Region.ready .any os listed) with he | ⟨l, i, he⟩
      · exact he
      · obtain ⟨h1, h2, _⟩ := ready_spec (os := os) (listed := listed) (i := i) (by rw [he]; simp)
        have : os.toList.length ≤ j := by simpa using (List.drop_eq_nil_iff.1 hr.symm)
        exact (h2 ((hl i (by omega)).2 (by simp only [Array.length_toList] at this; omega))).elim
  | o :: rest, j, listed, a, w, hr, hm, hs, hl, hd, h => by
      have hj : os.toList[j]? = some o := by
        have := congrArg (fun l => l[0]?) hr
        simpa using this.symm
      have hjl : j < os.size := by have := (List.getElem?_eq_some_iff.1 hj).1; simpa using this
      have hrest : rest = os.toList.drop (j + 1) := by
        have := congrArg List.tail hr
        simpa using this
      have hrj := ready_least hc hs hjl (fun h => by have := (hl j hjl).1 h; omega) (fun k hk => (hl k (by omega)).2 hk)
      refine ⟨fun h0 => (by rw [h0] at hrj; cases hrj), fun i hi => ?_⟩
      obtain ⟨h1, h2, oi, h3, h4⟩ := ready_spec hi
      have hij : i = j := by
        rcases Nat.lt_trichotomy i j with hlt | he | hgt
        · exact (h2 ((hl i (by omega)).2 hlt)).elim
        · exact he
        · rcases hc.bef listed hd i oi h3 h4 j hgt with h5 | ⟨h5, _⟩
          · have := (hl j hjl).1 h5; omega
          · omega
      subst hij
      rw [hj] at h3
      simp only [Option.some.injEq] at h3; subst h3
      have key : ∀ a w, wpList P os Q rest a w → wpAny P .any os Q rest.length (listed.setIfInBounds i true) a w := fun a w h =>
        any2 hc rest (i + 1) _ a w hrest (by omega) (by simpa using hs) (fun k hk => by rw [lst_set h1, hl k hk]; omega) (hd.set h1 hj h4) h
      have hoi : os[i]? = some o := by simpa using hj
      unfold wpOp
      rw [hoi]
      simp only
      unfold wpList at h
      split
      · rename_i hw
        rw [if_pos hw] at h
        rcases h with h | h
        · exact .inl (Oper.wp_mono key h)
        · exact .inr h
      · rename_i hw
        rw [if_neg hw] at h
        exact key _ _ h

theorem any1 (hT : TabOk P T) {os : Array Oper} {m : Nat} (hc : Chk os m) {Q : AExit → AS → Prop} {obs : List Ob} : ∀ (n : Nat) (rem : List Nat) (listed : Array Bool) (tm : List AV) (a : Act) (w : World), rem.length = n → rem.Pairwise (· < ·) → listed.size = os.size →
    (∀ k, k < os.size → (¬ Lst listed k ↔ k ∈ rem ∨ m ≤ k)) → (∀ k ∈ rem, k < m) → Dn os listed → DLi P T os.toList obs (fun tm => AL P F os Q (os.toList.drop m) ⟨tm, obs⟩) rem tm → Rel F ⟨tm, obs⟩ a w →
    wpAny P .any os (liftQ F Q) (n + (os.toList.drop m).length) listed a w := by
  intro n
  induction n with
  | zero =>
    intro rem listed tm a w hlen hpw hs hl hm hd h hr
    obtain rfl := List.eq_nil_of_length_eq_zero hlen
    rw [Nat.zero_add]
    refine any2 hc _ m listed a w rfl (Nat.le_refl _) hs (fun k hk => ?_) hd (h a w hr)
    have := hl k hk
    simp only [List.not_mem_nil, false_or] at this
    constructor
    · intro h1
      rcases Nat.lt_or_ge k m with h2 | h2
      · exact h2
      · exact ((this.2 h2) h1).elim
    · intro h1
      rcases lst_or hs hk with h2 | h2
      · have := this.1 h2.2; omega
      · exact h2
  | succ n ih =>
    intro rem listed tm a w hlen hpw hs hl hm hd h hr
    obtain ⟨k0, rem', rfl⟩ : ∃ k r, rem = k :: r := by
      cases rem with
      | nil => simp at hlen
      | cons k r => exact ⟨k, r, rfl⟩
    have hk0 : k0 < os.size := Nat.lt_of_lt_of_le (hm k0 (by simp)) hc.le
    have hn0 : ¬ Lst listed k0 := (hl k0 hk0).2 (.inl (by simp))
    have hlow : ∀ k, k < k0 → Lst listed k := fun k hk => by
      rcases lst_or hs (show k < os.size by omega) with h2 | h2
      · rcases (hl k (by omega)).1 h2.2 with h3 | h3
        · rcases List.mem_cons.1 h3 with rfl | h3
          · omega
          · have := List.rel_of_pairwise_cons hpw h3; omega
        · have := hm k0 (by simp); omega
      · exact h2
    have hr0 := ready_least hc hs hk0 hn0 hlow
    rw [show n + 1 + (os.toList.drop m).length = (n + (os.toList.drop m).length) + 1 by omega]
    refine ⟨fun h0 => (by rw [h0] at hr0; cases hr0), fun i hi => ?_⟩
    obtain ⟨h1, h2, oi, h3, h4⟩ := ready_spec hi
    have hb := hc.bef listed hd i oi h3 h4
    have him : i ∈ k0 :: rem' := by
      rcases (hl i (by omega)).1 h2 with h5 | h5
      · exact h5
      · have hlt : k0 < i := by have := hm k0 (by simp); omega
        rcases hb k0 hlt with h6 | ⟨h6, _⟩
        · exact (hn0 h6).elim
        · omega
    obtain ⟨r1, r2, hsplit⟩ := List.append_of_mem him
    rw [hsplit] at h hlen hpw hl hm
    have hpw2 := List.pairwise_append.1 hpw
    have hap : ∀ k ∈ r1, ∀ ok, os.toList[k]? = some ok → ok.apart os oi = true := fun k hk ok hok => by
      have hlt : k < i := hpw2.2.2 k hk i (by simp)
      rcases hb k hlt with h6 | ⟨_, ok', h7, h8⟩
      · exact ((hl k (by omega)).2 (.inl (by simp [hk])) h6).elim
      · rw [hok] at h7
        simp only [Option.some.injEq] at h7; subst h7
        exact h8
    obtain ⟨x, hx, hrest⟩ := DLi.pull h3 r1 r2 tm hap h
    refine QStp_ok (α := ⟨tm, obs⟩) hT hx hr (by simpa using h3) fun a' w' hr' => ?_
    have hni : i ∉ r1 ∧ i ∉ r2 := by
      refine ⟨fun hh => ?_, fun hh => ?_⟩
      · have := hpw2.2.2 i hh i (by simp); omega
      · have := List.rel_of_pairwise_cons hpw2.2.1 hh; omega
    refine ih (r1 ++ r2) _ _ a' w' (by simp only [List.length_append, List.length_cons] at hlen ⊢; omega) ?_ (by simpa using hs) (fun k hk => ?_) (fun k hk => hm k ?_) (hd.set h1 h3 h4) hrest hr'
    · refine List.pairwise_append.2 ⟨hpw2.1, (List.pairwise_cons.1 hpw2.2.1).2, fun x hx y hy => hpw2.2.2 x hx y (by simp [hy])⟩
    · rw [lst_set h1]
      have := hl k hk
      simp only [List.mem_append, List.mem_cons] at this ⊢
      constructor
      · intro hh
        have hki : k ≠ i := fun e => hh (.inl e)
        rcases this.1 (fun e => hh (.inr e)) with (h6 | h6 | h6) | h6
        · exact .inl (.inl h6)
        · exact (hki h6).elim
        · exact .inl (.inr h6)
        · exact .inr h6
      · intro hh
        rintro (rfl | h7)
        · rcases hh with (h6 | h6) | h6
          · exact hni.1 h6
          · exact hni.2 h6
          · have := hm k (by simp); omega
        · exact this.2 (by rcases hh with (h6 | h6) | h6
                           · exact .inl (.inl h6)
                           · exact .inl (.inr (.inr h6))
                           · exact .inr h6) h7
    · rcases List.mem_append.1 hk with h6 | h6
      · simp [h6]
      · simp [h6]

/-- A REGION THAT DRAWS ITS ORDER: its first m operations, one after the other, then the others. -/
theorem AW.draw (hT : TabOk P T) (m : Nat) {id : Nat} {l : List Oper} {Q : AExit → AS → Prop} {α : AS} (hB : drawB m l = true) (h : DL P T l α.obs (fun tm => AL P F l.toArray Q (l.drop m) ⟨tm, α.obs⟩) (l.take m) α.tmps) : AW P F (.region id l.toArray true) Q α := by
  intro a w hr
  have hc := Chk.of hB
  have hml : m ≤ l.length := by have := hc.le; simpa using this
  refine wp_region_any hT.mixed ?_
  have hr' : Rel F α a { w with drawn := w.drawn + 1 } := by
    obtain ⟨V, S, vs, hst, hd, ha, htm, hkp⟩ := hr
    have hb : Below w.heap.size w { w with drawn := w.drawn + 1 } := ⟨rfl, rfl, rfl, Nat.le_refl _, fun _ _ => rfl⟩
    obtain ⟨st, mv⟩ := hst.more hb (fun _ _ h => h) (fun _ _ h => .inl h) (fun b j hj => hst.sheap b j hj)
    exact ⟨V, S, vs, st, hd, ha, mv.all htm, hkp⟩
  have hi := DL.toI (P := P) (T := T) (l.take m) 0 α.tmps (fun j hj => by
    rw [List.length_take] at hj
    rw [List.getElem?_take, if_pos (by omega), Nat.zero_add]) h
  have hlt : (l.take m).length = m := by rw [List.length_take]; omega
  rw [hlt] at hi
  have hempty : ∀ k, ¬ Lst (Array.replicate l.toArray.size false) k := fun k hk => by
    have h1 := lst_lt hk
    simp only [Array.size_replicate] at h1
    have h2 : k < l.length := by simpa using h1
    unfold Lst at hk
    simp [h2] at hk
  have := any1 (P := P) (F := F) (T := T) hT (os := l.toArray) (Q := Q) hc m (List.range' 0 m) (Array.replicate l.toArray.size false) α.tmps a _ (by simp) (by simpa using (List.pairwise_lt_range' (s := 0) (n := m))) (by simp) (fun k hk => by
      refine ⟨fun _ => ?_, fun _ => hempty k⟩
      rcases Nat.lt_or_ge k m with h2 | h2
      · exact .inl (by simp [List.mem_range', h2])
      · exact .inr h2) (fun k hk => by simp [List.mem_range'] at hk; omega) (fun i o _ hi => (hempty i hi).elim) (by simpa using hi) hr'
  have e : m + (l.toArray.toList.drop m).length = l.toArray.size := by simp; omega
  rw [e] at this
  exact this
end

/-! ### Walking such a region -/
section
variable {P : Program} {F : Fr} {T : TypeId → Option TI} {obs : List Ob} {K : List AV → Prop}
def isStop : Op → Bool
  | .call c => match c.callee with | .value _ => true | _ => false
  | .buildSlice _ _ _ => true
  | _ => false
def stepQ (T : TypeId → Option TI) (os : List Oper) (obs : List Ob) (o : Oper) (tm : List AV) : Option (Prop × List AV) :=
  match guardB os tm o.guard with
  | some none =>
    match pureOp T o.op tm obs with
    | some (p, x) => some (p, putT tm o.dst x)
    | none => none
  | some (some G) =>
    match pureOp T o.op tm obs with
    | some (p, x) => some (G = true → p, putT tm o.dst (.g G x))
    | none => none
  | none => none
def runQ (T : TypeId → Option TI) (os : List Oper) (obs : List Ob) : List Oper → List AV → Option (Prop × List AV × List Oper)
  | [], tm => some (True, tm, [])
  | o :: rest, tm =>
    match isStop o.op with
    | true => some (True, tm, o :: rest)
    | false =>
      match stepQ T os obs o tm with
      | some (p, tm') =>
        match runQ T os obs rest tm' with
        | some (q, tm'', r) => some (p ∧ q, tm'', r)
        | none => none
      | none => none
theorem stepQ_ok {os : List Oper} {o : Oper} {tm tm' : List AV} {p : Prop} (h : stepQ T os obs o tm = some (p, tm')) (hp : p) : ∃ x, QStp P T os o tm obs x ∧ tm' = putT tm o.dst x := by
  unfold stepQ at h
  cases e : guardB os tm o.guard with
  | none => rw [e] at h; cases h
  | some g =>
    rw [e] at h
    cases g with
    | none =>
      simp only at h
      cases e2 : pureOp T o.op tm obs with
      | none => rw [e2] at h; cases h
      | some q =>
        obtain ⟨q1, q2⟩ := q
        rw [e2] at h
        simp only [Option.some.injEq, Prod.mk.injEq] at h
        obtain ⟨rfl, rfl⟩ := h
        exact ⟨q2, ⟨tm, Wk.refl _, .inl ⟨e, .inl ⟨_, e2, hp⟩⟩⟩, rfl⟩
    | some G =>
      simp only at h
      cases e2 : pureOp T o.op tm obs with
      | none => rw [e2] at h; cases h
      | some q =>
        obtain ⟨q1, q2⟩ := q
        rw [e2] at h
        simp only [Option.some.injEq, Prod.mk.injEq] at h
        obtain ⟨rfl, rfl⟩ := h
        exact ⟨.g G q2, ⟨tm, Wk.refl _, .inr ⟨G, q2, e, rfl, fun hG => .inl ⟨_, e2, hp hG⟩⟩⟩, rfl⟩
theorem DL.run {os : List Oper} : ∀ {l : List Oper} {tm tm' : List AV} {p : Prop} {rest : List Oper}, runQ T os obs l tm = some (p, tm', rest) → p → DL P T os obs K rest tm' → DL P T os obs K l tm
  | [], tm, tm', p, rest, h, hp, hk => by
      simp only [runQ, Option.some.injEq, Prod.mk.injEq] at h
      obtain ⟨rfl, rfl, rfl⟩ := h
      exact hk
  | o :: l, tm, tm', p, rest, h, hp, hk => by
      unfold runQ at h
      split at h
      · simp only [Option.some.injEq, Prod.mk.injEq] at h
        obtain ⟨rfl, rfl, rfl⟩ := h
        exact hk
      · split at h
        · rename_i p1 tm1 h1
          split at h
          · rename_i q tm2 r h2
            simp only [Option.some.injEq, Prod.mk.injEq] at h
            obtain ⟨rfl, rfl, rfl⟩ := h
            obtain ⟨x, h3, rfl⟩ := stepQ_ok (P := P) h1 hp.1
            exact ⟨x, h3, DL.run h2 hp.2 hk⟩
          · cases h
        · cases h
theorem DL.fin {os : List Oper} {l : List Oper} {tm tm' : List AV} {p : Prop} (h : runQ T os obs l tm = some (p, tm', [])) (hp : p) (hk : K tm') : DL P T os obs K l tm := DL.run h hp hk
theorem DL.call {os : List Oper} {o : Oper} {rest : List Oper} {tm : List AV} {c : Call} {f : FuncId} {cap args : List AV} {x : AV} (ho : o.op = .call c) (hg : guardB os tm o.guard = some none) (hc : calleeA tm c = some (f, cap)) (hp : calleeO tm c)
    (hcl : AV.closedL (callArgs tm c cap) = true) (hPC : PC P f args (fun r => r = x)) (hle : ArgsLe (callArgs tm c cap) args) (hx : AV.closed x = true) (h : DL P T os obs K rest (putT tm o.dst x)) : DL P T os obs K (o :: rest) tm :=
  ⟨x, ⟨tm, Wk.refl _, .inl ⟨hg, .inr (.inl ⟨c, f, cap, args, ho, hc, hp, hcl, hPC, hle, hx⟩)⟩⟩, h⟩
theorem DL.callG {os : List Oper} {o : Oper} {rest : List Oper} {tm : List AV} {c : Call} {f : FuncId} {cap args : List AV} {x : AV} {G : Bool} (ho : o.op = .call c) (hg : guardB os tm o.guard = some (some G)) (hc : calleeA tm c = some (f, cap)) (hp : G = true → calleeO tm c)
    (hcl : AV.closedL (callArgs tm c cap) = true) (hPC : G = true → PC P f args (fun r => r = x)) (hle : ArgsLe (callArgs tm c cap) args) (hx : AV.closed x = true) (h : DL P T os obs K rest (putT tm o.dst (.g G x))) : DL P T os obs K (o :: rest) tm :=
  ⟨.g G x, ⟨tm, Wk.refl _, .inr ⟨G, x, hg, rfl, fun hG => .inr (.inl ⟨c, f, cap, args, ho, hc, hp hG, hcl, hPC hG, hle, hx⟩)⟩⟩, h⟩
/-- A slice written out: settled at once. -/
theorem DL.lit {os : List Oper} {o : Oper} {rest : List Oper} {tm : List AV} {t : TypeId} {len : Nat} {parts : Array (Nat × Operand)} {i ie : TI} {d : Dt} (ho : o.op = .buildSlice t len parts) (hg : guardB os (tm.map clo) o.guard = some none) (hi : T t = some i) (hie : T i.elem = some ie) (hsz : i.nil.sz = ie.size)
    (hb : buildSliceA i ie.size [] (tm.map clo) len parts.toList = some (True, .row 0 0, [.row i.elem d 0])) (h : DL P T os obs K rest (putT tm o.dst (.d d))) : DL P T os obs K (o :: rest) tm :=
  ⟨.d d, ⟨tm.map clo, Wk.ofClo tm, .inl ⟨hg, .inr (.inr ⟨t, len, parts, i, ie, d, ho, hi, hie, hsz, clo_closed tm, hb, rfl⟩)⟩⟩, h⟩
end
end Go.Proofs.YtlhfjjkoflpecaaAw
