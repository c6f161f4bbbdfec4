/- The framework of these proofs: abstract values, objects and states; the rules of walking the program's text over them, each shown sound over the model's own rules. -/
import Derived.Below
import Derived.Tactics
import Derived.Deep.Draws
import Derived.Laws.AppendOwn
import Derived.Laws.MakeOwn
import Derived.Deep.OwnRows
import Derived.Deep.Quiet
import Derived.WalkKit
import Derived.RowKit3
import Derived.Great.BuildSlice
namespace Go.Proofs.YtlhfjjkoflpecaaAw
open Go.RowKit

/-! ### Data -/
structure Doc where
  op : Int
  n : Int
  text : ByteArray
  kids : List Doc
instance : Inhabited Doc := ⟨⟨0, 0, ⟨#[]⟩, []⟩⟩
theorem Doc.eta (d : Doc) : (⟨d.op, d.n, d.text, d.kids⟩ : Doc) = d := by cases d; rfl

structure Val where
  kind : Int
  word : ByteArray
  keys : List ByteArray
  kids : List Val
instance : Inhabited Val := ⟨⟨0, ⟨#[]⟩, [], []⟩⟩
theorem Val.eta (d : Val) : (⟨d.kind, d.word, d.keys, d.kids⟩ : Val) = d := by cases d; rfl

structure Row where
  indent : Int
  text : ByteArray
instance : Inhabited Row := ⟨⟨0, ⟨#[]⟩⟩⟩

structure Piece where
  doc : Doc
  indent : Int
  flat : Bool
  path : List Int
instance : Inhabited Piece := ⟨⟨default, 0, false, []⟩⟩

structure Item where
  indent : Int
  doc : Doc
instance : Inhabited Item := ⟨⟨0, default⟩⟩

/-- A datum of one cell: a scalar, or a slice told by the list that it holds. -/
inductive Dt where
  | v (x : Value)
  | docs (xs : List Doc)
  | vals (xs : List Val)
  | rows (xs : List Row)
  | rowss (xs : List (List Row))
  | strs (xs : List ByteArray)
  | ints (xs : List Int)
  | bytes (xs : List Int)
  | bools (xs : List Bool)
  | pieces (xs : List Piece)
  | items (xs : List Item)

def Doc.cells (d : Doc) : List Dt := [.v (.int .i64 d.op), .v (.int .i64 d.n), .v (.string d.text), .docs d.kids]
def Val.cells (d : Val) : List Dt := [.v (.int .i64 d.kind), .v (.string d.word), .strs d.keys, .vals d.kids]
def Row.cells (d : Row) : List Dt := [.v (.int .i64 d.indent), .v (.string d.text)]
def Piece.cells (d : Piece) : List Dt := [.v (.int .i64 d.doc.op), .v (.int .i64 d.doc.n), .v (.string d.doc.text), .docs d.doc.kids, .v (.int .i64 d.indent), .v (.bool d.flat), .ints d.path]
def Item.cells (d : Item) : List Dt := [.v (.int .i64 d.indent), .v (.int .i64 d.doc.op), .v (.int .i64 d.doc.n), .v (.string d.doc.text), .docs d.doc.kids]

def Dt.isSl : Dt → Bool
  | .v _ => false
  | _ => true
def Dt.len : Dt → Nat
  | .v _ => 0
  | .docs xs => xs.length
  | .vals xs => xs.length
  | .rows xs => xs.length
  | .rowss xs => xs.length
  | .strs xs => xs.length
  | .ints xs => xs.length
  | .bytes xs => xs.length
  | .bools xs => xs.length
  | .pieces xs => xs.length
  | .items xs => xs.length
def Dt.sz : Dt → Nat
  | .docs _ => 4
  | .vals _ => 4
  | .rows _ => 2
  | .pieces _ => 7
  | .items _ => 5
  | _ => 1
/-- The cells of element j. -/
def Dt.el : Dt → Nat → List Dt
  | .v _, _ => []
  | .docs xs, j => (xs.getD j default).cells
  | .vals xs, j => (xs.getD j default).cells
  | .rows xs, j => (xs.getD j default).cells
  | .rowss xs, j => [.rows (xs.getD j [])]
  | .strs xs, j => [.v (.string (xs.getD j ⟨#[]⟩))]
  | .ints xs, j => [.v (.int .i64 (xs.getD j 0))]
  | .bytes xs, j => [.v (.int .u8 (xs.getD j 0))]
  | .bools xs, j => [.v (.bool (xs.getD j false))]
  | .pieces xs, j => (xs.getD j default).cells
  | .items xs, j => (xs.getD j default).cells
theorem Dt.el_len (t : Dt) (j : Nat) (h : t.isSl = true) : (t.el j).length = t.sz := by
  cases t <;> first | rfl | simp [Dt.isSl] at h
theorem Dt.sz_pos (t : Dt) : 0 < t.sz := by cases t <;> simp [Dt.sz]

/-- A value of one cell; a string is no longer than any string. -/
def fitV : Value → Bool
  | .string s => decide (s.size ≤ maxLen)
  | x => x.oneCell'
theorem fitV.one {x : Value} (h : fitV x = true) : x.oneCell' = true := by cases x <;> first | rfl | exact h

/-! ### A datum lies in memory; `S`: the cells that it leans on -/
inductive Rep (S : Nat → Nat → Prop) (w : World) : Dt → Value → Prop
  | v (x : Value) (h : fitV x = true) : Rep S w (.v x) x
  | nil (t : Dt) (h : t.isSl = true) (hn : t.len = 0) (A : Option Addr) (c : Nat) : Rep S w t (.slice A 0 c)
  | sl (t : Dt) (h : t.isSl = true) (b o c : Nat) (u : Nat → Nat → Value) (hc : t.len ≤ c) (hm : t.len ≤ maxLen)
      (hcell : ∀ j i d, j < t.len → (t.el j)[i]? = some d → w.cell? ⟨b, o + (j * t.sz + i), none⟩ = some (u j i))
      (hS : ∀ j i d, j < t.len → (t.el j)[i]? = some d → S b (o + (j * t.sz + i)))
      (hrep : ∀ j i d, j < t.len → (t.el j)[i]? = some d → Rep S w d (u j i)) : Rep S w t (.slice (some ⟨b, o, none⟩) t.len c)

theorem Rep.mono {S S' : Nat → Nat → Prop} {w w' : World} (hS : ∀ b o, S b o → S' b o)
    (hw : ∀ b o, S b o → w'.cell? ⟨b, o, none⟩ = w.cell? ⟨b, o, none⟩) {t : Dt} {v : Value} (h : Rep S w t v) : Rep S' w' t v := by
  induction h with
  | v x h => exact .v x h
  | nil t h hn A c => exact .nil t h hn A c
  | sl t h b o c u hc hm hcell hSS hrep ih =>
    exact .sl t h b o c u hc hm (fun j i d hj hd => by rw [hw _ _ (hSS j i d hj hd)]; exact hcell j i d hj hd)
      (fun j i d hj hd => hS _ _ (hSS j i d hj hd)) ih

theorem Rep.oneCell {S : Nat → Nat → Prop} {w : World} {t : Dt} {v : Value} (h : Rep S w t v) : v.oneCell' = true := by
  cases h with
  | v x h => exact fitV.one h
  | nil => rfl
  | sl => rfl

theorem Rep.scalar {S : Nat → Nat → Prop} {w : World} {x v : Value} (h : Rep S w (.v x) v) : v = x := by
  cases h with
  | v => rfl
  | nil _ h => simp [Dt.isSl] at h
  | sl _ h => simp [Dt.isSl] at h

theorem Rep.str {S : Nat → Nat → Prop} {w : World} {s : ByteArray} {v : Value} (h : Rep S w (.v (.string s)) v) : s.size ≤ maxLen := by
  cases h with
  | v _ h => exact of_decide_eq_true h
  | nil _ h => simp [Dt.isSl] at h
  | sl _ h => simp [Dt.isSl] at h
/-- A slice's datum, laid open. -/
theorem Rep.slice {S : Nat → Nat → Prop} {w : World} {t : Dt} {v : Value} (ht : t.isSl = true) (h : Rep S w t v) :
    t.len ≤ maxLen ∧ ∃ A c, v = .slice A t.len c ∧ t.len ≤ c ∧ (0 < t.len → ∃ b o, A = some ⟨b, o, none⟩ ∧
      ∀ j i d, j < t.len → (t.el j)[i]? = some d → ∃ u, w.cell? ⟨b, o + (j * t.sz + i), none⟩ = some u ∧ S b (o + (j * t.sz + i)) ∧ Rep S w d u) := by
  cases h with
  | v x h => simp [Dt.isSl] at ht
  | nil _ h hn A c => exact ⟨by rw [hn]; exact Nat.zero_le _, A, c, by rw [hn], by omega, fun h => by omega⟩
  | sl _ h b o c u hc hm hcell hSS hrep =>
    exact ⟨hm, _, c, rfl, hc, fun _ => ⟨b, o, rfl, fun j i d hj hd => ⟨u j i, hcell j i d hj hd, hSS j i d hj hd, hrep j i d hj hd⟩⟩⟩

/-! ### Abstract values, objects, states -/
inductive AV where
  | dead
  | d (x : Dt)
  | row (o k : Nat)
  | ptr (o off : Nat)
  | rptr (o k j f : Nat)
  | eptr (cells : List Dt) (off : Nat)
  | agg (xs : List AV)
  | tup (xs : List AV)
  | fn (f : FuncId) (cap : List AV)
  | g (b : Bool) (x : AV)
instance : Inhabited AV := ⟨.dead⟩

inductive Ob where
  | box (ty : TypeId) (cells : List AV)
  | row (e : TypeId) (t : Dt) (ver : Nat)
  | set (t : Dt) (ver : Nat)
  | gone
instance : Inhabited Ob := ⟨.gone⟩
def Ob.ver : Ob → Option Nat
  | .row _ _ k => some k
  | .set _ k => some k
  | _ => none
def verOf (obs : List Ob) (o : Nat) : Option Nat := (obs[o]?).bind Ob.ver
def Ob.dt : Ob → Dt
  | .row _ t _ => t
  | .set t _ => t
  | _ => .v (.bool false)
def dtAt (obs : List Ob) (o : Nat) : Dt := ((obs[o]?).map Ob.dt).getD (.v (.bool false))

structure AS where
  tmps : List AV
  obs : List Ob

section
variable (S : Nat → Nat → Prop) (w : World) (obs : List Ob) (V : Nat → Value)
mutual
def RepA : AV → Value → Prop
  | .dead, _ => True
  | .d x, v => Rep S w x v
  | .row o k, v => o < obs.length ∧ ∀ k0, verOf obs o = some k0 → k ≤ k0 ∧ (k = k0 → v = V o)
  | .ptr o off, v => o < obs.length ∧ ∃ g, V o = .pointer (some ⟨g, 0, none⟩) ∧ v = .pointer (some ⟨g, off, none⟩)
  | .rptr o k j f, v => o < obs.length ∧ ∀ k0, verOf obs o = some k0 → k ≤ k0 ∧ (k = k0 → ∃ g n c, V o = .slice (some ⟨g, 0, none⟩) n c ∧ j < (dtAt obs o).len ∧ v = .pointer (some ⟨g, j * (dtAt obs o).sz + f, none⟩))
  | .eptr cells off, v => ∃ b o, v = .pointer (some ⟨b, o + off, none⟩) ∧ ∀ i d, cells[i]? = some d → ∃ u, w.cell? ⟨b, o + i, none⟩ = some u ∧ S b (o + i) ∧ Rep S w d u
  | .agg xs, v => ∃ vs : List Value, v = .agg vs.toArray ∧ RepAs xs vs
  | .tup xs, v => ∃ vs : List Value, v = .tuple vs.toArray ∧ RepAs xs vs
  | .fn f cap, v => ∃ vs : List Value, v = .func (.func f) #[] vs.toArray ∧ RepAs cap vs
  | .g b x, v => (b = true → RepA x v) ∧ (b = false → v = undef)
def RepAs : List AV → List Value → Prop
  | [], vs => vs = []
  | x :: xs, vs => ∃ v r, vs = v :: r ∧ RepA x v ∧ RepAs xs r
end
end

/-- How the objects may turn without what points at them turning false. -/
structure Evo (obs : List Ob) (V : Nat → Value) (obs' : List Ob) (V' : Nat → Value) : Prop where
  len : obs.length ≤ obs'.length
  ptr : ∀ o a, o < obs.length → V o = .pointer a → V' o = .pointer a
  row : ∀ o k1, o < obs.length → verOf obs' o = some k1 → ∃ k0, verOf obs o = some k0 ∧ k0 ≤ k1 ∧
    (k1 = k0 → V' o = V o ∧ (dtAt obs' o).sz = (dtAt obs o).sz ∧ (dtAt obs' o).len = (dtAt obs o).len)

theorem Evo.refl (obs : List Ob) (V : Nat → Value) : Evo obs V obs V :=
  ⟨Nat.le_refl _, fun _ _ _ h => h, fun _ k _ h => ⟨k, h, Nat.le_refl _, fun _ => ⟨rfl, rfl, rfl⟩⟩⟩

section
variable {S S' : Nat → Nat → Prop} {w w' : World} {obs obs' : List Ob} {V V' : Nat → Value}
mutual
theorem RepA.mono (hS : ∀ b o, S b o → S' b o) (hw : ∀ b o, S b o → w'.cell? ⟨b, o, none⟩ = w.cell? ⟨b, o, none⟩)
    (he : Evo obs V obs' V') : ∀ (x : AV) (v : Value), RepA S w obs V x v → RepA S' w' obs' V' x v
  | .dead, _, _ => trivial
  | .d x, v, h => Rep.mono hS hw h
  | .row o k, v, h => ⟨Nat.lt_of_lt_of_le h.1 he.len, fun k1 h1 => by
      obtain ⟨k0, h0, hle, heq⟩ := he.row o k1 h.1 h1
      obtain ⟨ha, hb⟩ := h.2 k0 h0
      exact ⟨Nat.le_trans ha hle, fun e => by
        have e0 : k1 = k0 := by omega
        rw [(heq e0).1]; exact hb (by omega)⟩⟩
  | .ptr o off, v, h => by
      obtain ⟨h1, g, h2, h3⟩ := h
      exact ⟨Nat.lt_of_lt_of_le h1 he.len, g, he.ptr o _ h1 h2, h3⟩
  | .rptr o k j f, v, h => ⟨Nat.lt_of_lt_of_le h.1 he.len, fun k1 h1 => by
      obtain ⟨k0, h0, hle, heq⟩ := he.row o k1 h.1 h1
      obtain ⟨ha, hb⟩ := h.2 k0 h0
      refine ⟨Nat.le_trans ha hle, fun e => ?_⟩
      have e0 : k1 = k0 := by omega
      obtain ⟨q1, q2, q3⟩ := heq e0
      obtain ⟨g, n, c, p1, p2, p3⟩ := hb (by omega)
      exact ⟨g, n, c, by rw [q1]; exact p1, by rw [q3]; exact p2, by rw [q2]; exact p3⟩⟩
  | .eptr cells off, v, h => by
      obtain ⟨b, o, h1, h2⟩ := h
      refine ⟨b, o, h1, fun i d hd => ?_⟩
      obtain ⟨u, p1, p2, p3⟩ := h2 i d hd
      exact ⟨u, by rw [hw _ _ p2]; exact p1, hS _ _ p2, Rep.mono hS hw p3⟩
  | .agg xs, v, h => by
      obtain ⟨vs, h1, h2⟩ := h
      exact ⟨vs, h1, RepAs.mono hS hw he xs vs h2⟩
  | .tup xs, v, h => by
      obtain ⟨vs, h1, h2⟩ := h
      exact ⟨vs, h1, RepAs.mono hS hw he xs vs h2⟩
  | .fn f cap, v, h => by
      obtain ⟨vs, h1, h2⟩ := h
      exact ⟨vs, h1, RepAs.mono hS hw he cap vs h2⟩
  | .g b x, v, h => ⟨fun hb => RepA.mono hS hw he x v (h.1 hb), h.2⟩
theorem RepAs.mono (hS : ∀ b o, S b o → S' b o) (hw : ∀ b o, S b o → w'.cell? ⟨b, o, none⟩ = w.cell? ⟨b, o, none⟩)
    (he : Evo obs V obs' V') : ∀ (xs : List AV) (vs : List Value), RepAs S w obs V xs vs → RepAs S' w' obs' V' xs vs
  | [], vs, h => h
  | x :: xs, vs, h => by
      obtain ⟨v, r, h1, h2, h3⟩ := h
      exact ⟨v, r, h1, RepA.mono hS hw he x v h2, RepAs.mono hS hw he xs r h3⟩
end

theorem RepAs.length : ∀ {xs : List AV} {vs : List Value}, RepAs S w obs V xs vs → vs.length = xs.length
  | [], vs, h => by rw [show vs = [] from h]; rfl
  | x :: xs, vs, h => by
      obtain ⟨v, r, rfl, h2, h3⟩ := h
      simp [RepAs.length h3]
theorem RepAs.get : ∀ {xs : List AV} {vs : List Value}, RepAs S w obs V xs vs → ∀ (i : Nat) (x : AV), xs[i]? = some x → ∃ v, vs[i]? = some v ∧ RepA S w obs V x v
  | [], vs, h, i, x, hx => by simp at hx
  | y :: xs, vs, h, i, x, hx => by
      obtain ⟨v, r, rfl, h2, h3⟩ := h
      cases i with
      | zero => simp at hx; subst hx; exact ⟨v, rfl, h2⟩
      | succ i => simp at hx; obtain ⟨v', hv, hr⟩ := RepAs.get h3 i x hx; exact ⟨v', by simpa using hv, hr⟩
theorem RepAs.set : ∀ {xs : List AV} {vs : List Value}, RepAs S w obs V xs vs → ∀ (i : Nat) (x : AV) (v : Value), RepA S w obs V x v → RepAs S w obs V (xs.set i x) (vs.set i v)
  | [], vs, h, i, x, v, hx => by rw [show vs = [] from h]; rfl
  | y :: xs, vs, h, i, x, v, hx => by
      obtain ⟨u, r, rfl, h2, h3⟩ := h
      cases i with
      | zero => exact ⟨v, r, rfl, hx, h3⟩
      | succ i => exact ⟨u, r.set i v, rfl, h2, RepAs.set h3 i x v hx⟩
theorem RepAs.append : ∀ {xs ys : List AV} {vs us : List Value}, RepAs S w obs V xs vs → RepAs S w obs V ys us → RepAs S w obs V (xs ++ ys) (vs ++ us)
  | [], ys, vs, us, h, h' => by rw [show vs = [] from h]; exact h'
  | y :: xs, ys, vs, us, h, h' => by
      obtain ⟨u, r, rfl, h2, h3⟩ := h
      exact ⟨u, r ++ us, rfl, h2, RepAs.append h3 h'⟩
theorem RepAs.of_get : ∀ {xs : List AV} {vs : List Value}, vs.length = xs.length → (∀ (i : Nat) (x : AV) (v : Value), xs[i]? = some x → vs[i]? = some v → RepA S w obs V x v) → RepAs S w obs V xs vs
  | [], vs, h, _ => List.eq_nil_of_length_eq_zero h
  | y :: xs, [], h, _ => by simp at h
  | y :: xs, v :: vs, h, hh => ⟨v, vs, rfl, hh 0 y v rfl rfl, RepAs.of_get (by simpa using h) (fun i x v hx hv => hh (i + 1) x v (by simpa using hx) (by simpa using hv))⟩
theorem RepAs.take : ∀ {xs : List AV} {vs : List Value} (n : Nat), RepAs S w obs V xs vs → RepAs S w obs V (xs.take n) (vs.take n)
  | _, _, 0, _ => by simp [RepAs]
  | [], vs, n + 1, h => by rw [show vs = [] from h]; simp [RepAs]
  | y :: xs, vs, n + 1, h => by
      obtain ⟨u, r, rfl, h2, h3⟩ := h
      exact ⟨u, r.take n, rfl, h2, RepAs.take n h3⟩
theorem RepAs.drop : ∀ {xs : List AV} {vs : List Value} (n : Nat), RepAs S w obs V xs vs → RepAs S w obs V (xs.drop n) (vs.drop n)
  | _, _, 0, h => h
  | [], vs, n + 1, h => by rw [show vs = [] from h]; simp [RepAs]
  | y :: xs, vs, n + 1, h => by
      obtain ⟨u, r, rfl, h2, h3⟩ := h
      exact RepAs.drop n h3
end

/-! ### Objects and the state of the memory -/
def ownB : Value → Option Nat
  | .pointer (some a) => some a.block
  | .slice (some a) _ c => if c = 0 then none else some a.block
  | _ => none
def Ob.owns : Ob → Bool
  | .box _ _ => true
  | .row _ _ _ => true
  | _ => false
def RepRow (S : Nat → Nat → Prop) (w : World) (t : Dt) (xs : List Value) : Prop :=
  ∀ j i d, j < t.len → (t.el j)[i]? = some d → ∃ u, xs[j * t.sz + i]? = some u ∧ Rep S w d u
def RowAt (w : World) (e : TypeId) (t : Dt) (v : Value) (xs : List Value) : Prop :=
  xs.length = t.len * t.sz ∧ (∀ u ∈ xs, u.oneCell' = true) ∧ ((∃ A, v = .slice A 0 0 ∧ t.len = 0) ∨
    ∃ g cap cur, v = .slice (some ⟨g, 0, none⟩) t.len cap ∧ w.heap[g]? = some (.cells cur e (0, 0)) ∧ t.len ≤ cap ∧ cap ≤ maxLen ∧ 0 < cap ∧
      cur.size = cap * t.sz ∧ cur.toList.take (t.len * t.sz) = xs)
def ObOk (S : Nat → Nat → Prop) (w : World) (obs : List Ob) (V : Nat → Value) (o : Nat) : Ob → Prop
  | .box ty cells => ∃ g cs, V o = .pointer (some ⟨g, 0, none⟩) ∧ w.heap[g]? = some (.cells (List.toArray cs) ty (0, 0)) ∧ RepAs S w obs V cells cs ∧ ∀ u ∈ cs, u.oneCell' = true
  | .row e t _ => t.isSl = true ∧ ∃ xs, RowAt w e t (V o) xs ∧ RepRow S w t xs
  | .set t _ => t.isSl = true ∧ Rep S w t (V o)
  | .gone => True

theorem RepRow.mono {S S' : Nat → Nat → Prop} {w w' : World} (hS : ∀ b o, S b o → S' b o) (hw : ∀ b o, S b o → w'.cell? ⟨b, o, none⟩ = w.cell? ⟨b, o, none⟩)
    {t : Dt} {xs : List Value} (h : RepRow S w t xs) : RepRow S' w' t xs := fun j i d hj hd => by
  obtain ⟨u, h1, h2⟩ := h j i d hj hd
  exact ⟨u, h1, Rep.mono hS hw h2⟩

theorem ObOk.mono {S S' : Nat → Nat → Prop} {w w' : World} {obs obs' : List Ob} {V V' : Nat → Value} {o : Nat} {ob : Ob} (hS : ∀ b o, S b o → S' b o)
    (hw : ∀ b o, S b o → w'.cell? ⟨b, o, none⟩ = w.cell? ⟨b, o, none⟩) (he : Evo obs V obs' V') (hV : V' o = V o)
    (hb : ∀ g, ob.owns = true → ownB (V o) = some g → w'.heap[g]? = w.heap[g]?) (h : ObOk S w obs V o ob) : ObOk S' w' obs' V' o ob := by
  cases ob with
  | box ty cells =>
    obtain ⟨g, cs, h1, h2, h3, h4⟩ := h
    exact ⟨g, cs, by rw [hV]; exact h1, by rw [hb g rfl (by rw [h1]; rfl)]; exact h2, RepAs.mono hS hw he _ _ h3, h4⟩
  | row e t k =>
    obtain ⟨h1, xs, ⟨h2, h3, h4⟩, h5⟩ := h
    refine ⟨h1, xs, ⟨h2, h3, ?_⟩, h5.mono hS hw⟩
    rcases h4 with ⟨A, p1, p2⟩ | ⟨g, cap, cur, p1, p2, p3, p4, p5, p6⟩
    · exact .inl ⟨A, by rw [hV]; exact p1, p2⟩
    · exact .inr ⟨g, cap, cur, by rw [hV]; exact p1, by rw [hb g rfl (by rw [p1]; simp [ownB]; omega)]; exact p2, p3, p4, p5, p6⟩
  | set t k => exact ⟨h.1, by rw [hV]; exact Rep.mono hS hw h.2⟩
  | gone => trivial

/-- What a call keeps: all that was there when it began, but for the blocks of X. -/
structure Keep (X : Nat → Prop) (w w' : World) : Prop where
  os : w'.os = w.os
  tape : w'.tape = w.tape
  output : w'.output = w.output
  size : w.heap.size ≤ w'.heap.size
  block : ∀ k, k < w.heap.size → ¬ X k → w'.heap[k]? = w.heap[k]?
theorem Keep.refl (X : Nat → Prop) (w : World) : Keep X w w := ⟨rfl, rfl, rfl, Nat.le_refl _, fun _ _ _ => rfl⟩
theorem Keep.trans {X : Nat → Prop} {a b c : World} (h : Keep X a b) (k : Keep X b c) : Keep X a c :=
  ⟨k.os.trans h.os, k.tape.trans h.tape, k.output.trans h.output, Nat.le_trans h.size k.size, fun i hi hx => (k.block i (Nat.lt_of_lt_of_le hi h.size) hx).trans (h.block i hi hx)⟩
theorem Keep.of_below {X : Nat → Prop} {w w' : World} (h : Below w.heap.size w w') : Keep X w w' := ⟨h.os, h.tape, h.output, h.size, fun k hk _ => h.block k hk⟩
theorem Keep.below {X : Nat → Prop} {w w' : World} (h : Keep X w w') (hx : ∀ k, ¬ X k) : Below w.heap.size w w' := ⟨h.os, h.tape, h.output, h.size, fun k hk => h.block k hk (hx k)⟩

structure St (w0 : World) (X : Nat → Prop) (S0 : Nat → Nat → Prop) (obs : List Ob) (V : Nat → Value) (S : Nat → Nat → Prop) (w : World) : Prop where
  keep : Keep X w0 w
  s0 : ∀ b j, S0 b j → S b j
  snew : ∀ b j, S b j → S0 b j ∨ w0.heap.size ≤ b ∨ X b
  sheap : ∀ b j, S b j → b < w.heap.size
  ob : ∀ o ob, obs[o]? = some ob → ObOk S w obs V o ob
  off : ∀ o ob g j, obs[o]? = some ob → ob.owns = true → ownB (V o) = some g → ¬ S g j
  inj : ∀ o o' ob ob' g, obs[o]? = some ob → obs[o']? = some ob' → ob.owns = true → ob'.owns = true → ownB (V o) = some g → ownB (V o') = some g → o = o'
  fresh : ∀ o ob g, obs[o]? = some ob → ob.owns = true → ownB (V o) = some g → w0.heap.size ≤ g ∨ X g

def upd (V : Nat → Value) (n : Nat) (v : Value) : Nat → Value := fun o => if o = n then v else V o

theorem cell_block {w w' : World} {b o : Nat} (h : w'.heap[b]? = w.heap[b]?) : w'.cell? ⟨b, o, none⟩ = w.cell? ⟨b, o, none⟩ := World.cell?_of_block (a := ⟨b, o, none⟩) h

section
variable {w0 : World} {X : Nat → Prop} {S0 : Nat → Nat → Prop} {obs : List Ob} {V : Nat → Value} {S : Nat → Nat → Prop} {w w' : World}
theorem ObOk.lt {o : Nat} {ob : Ob} {g : Nat} (h : ObOk S w obs V o ob) (ho : ob.owns = true) (hg : ownB (V o) = some g) : g < w.heap.size := by
  cases ob with
  | box ty cells =>
    obtain ⟨g', cs, h1, h2, h3, h4⟩ := h
    rw [h1] at hg; simp [ownB] at hg; subst hg
    exact (Array.getElem?_eq_some_iff.1 h2).1
  | row e t k =>
    obtain ⟨h1, xs, ⟨h2, h3, h4⟩, h5⟩ := h
    rcases h4 with ⟨A, p1, p2⟩ | ⟨g', cap, cur, p1, p2, p3, p4, p5, p6⟩
    · rw [p1] at hg; cases A <;> simp [ownB] at hg
    · rw [p1] at hg; simp [ownB] at hg; obtain ⟨-, hg⟩ := hg; subst hg
      exact (Array.getElem?_eq_some_iff.1 p2).1
  | set t k => simp [Ob.owns] at ho
  | gone => simp [Ob.owns] at ho

/-- All blocks that are there stay as they are. -/
theorem St.grow (h : St w0 X S0 obs V S w) (hb : Below w.heap.size w w') : St w0 X S0 obs V S w' where
  keep := h.keep.trans (.of_below hb)
  s0 := h.s0
  snew := h.snew
  sheap := fun b j hj => Nat.lt_of_lt_of_le (h.sheap b j hj) hb.size
  ob := fun o ob ho => (h.ob o ob ho).mono (fun _ _ h => h) (fun b j hj => cell_block (hb.block b (h.sheap b j hj))) (Evo.refl _ _) rfl
    (fun g h1 h2 => hb.block g ((h.ob o ob ho).lt h1 h2))
  off := h.off
  inj := h.inj
  fresh := h.fresh

theorem upd_ne {V : Nat → Value} {n o : Nat} {v : Value} (h : o ≠ n) : upd V n v o = V o := if_neg h
theorem upd_eq {V : Nat → Value} {n : Nat} {v : Value} : upd V n v n = v := if_pos rfl

theorem Evo.push (obs : List Ob) (V : Nat → Value) (ob : Ob) (v : Value) : Evo obs V (obs ++ [ob]) (upd V obs.length v) where
  len := by simp
  ptr := fun o a h e => by rw [upd_ne (by omega)]; exact e
  row := fun o k1 h e => by
    have e1 : (obs ++ [ob])[o]? = obs[o]? := List.getElem?_append_left h
    refine ⟨k1, by simpa [verOf, e1] using e, Nat.le_refl _, fun _ => ⟨upd_ne (by omega), ?_, ?_⟩⟩ <;> simp [dtAt, e1]

theorem Evo.set {o : Nat} {ob ob' : Ob} {v' : Value} (ho : obs[o]? = some ob) (hp : ∀ a, V o = .pointer a → v' = .pointer a)
    (hr : ∀ k1, ob'.ver = some k1 → ∃ k0, ob.ver = some k0 ∧ k0 ≤ k1 ∧ (k1 = k0 → v' = V o ∧ ob'.dt.sz = ob.dt.sz ∧ ob'.dt.len = ob.dt.len)) :
    Evo obs V (obs.set o ob') (upd V o v') where
  len := by simp
  ptr := fun o' a h e => by
    by_cases h' : o' = o
    · subst h'; rw [upd_eq]; exact hp a e
    · rw [upd_ne h']; exact e
  row := fun o' k1 h e => by
    have hl : o < obs.length := (List.getElem?_eq_some_iff.1 ho).1
    by_cases h' : o' = o
    · subst h'
      have e1 : (obs.set o' ob')[o']? = some ob' := by simp [hl]
      obtain ⟨k0, a, b, c⟩ := hr k1 (by simpa [verOf, e1] using e)
      refine ⟨k0, by simp [verOf, ho, a], b, fun q => ?_⟩
      obtain ⟨c1, c2, c3⟩ := c q
      exact ⟨by rw [upd_eq]; exact c1, by simpa [dtAt, e1, ho] using c2, by simpa [dtAt, e1, ho] using c3⟩
    · have e1 : (obs.set o ob')[o']? = obs[o']? := by rw [List.getElem?_set_ne (Ne.symm h')]
      exact ⟨k1, by simpa [verOf, e1] using e, Nat.le_refl _, fun _ => ⟨upd_ne h', by simp [dtAt, e1], by simp [dtAt, e1]⟩⟩

/-- A new object. -/
theorem St.push (h : St w0 X S0 obs V S w) (ob : Ob) (v : Value) (hob : ObOk S w (obs ++ [ob]) (upd V obs.length v) obs.length ob)
    (hn : ∀ g, ob.owns = true → ownB v = some g → (∀ j, ¬ S g j) ∧ (w0.heap.size ≤ g ∨ X g) ∧ ∀ o ob', obs[o]? = some ob' → ob'.owns = true → ownB (V o) ≠ some g) :
    St w0 X S0 (obs ++ [ob]) (upd V obs.length v) S w := by
  have key : ∀ o ob', (obs ++ [ob])[o]? = some ob' → (o < obs.length ∧ obs[o]? = some ob' ∧ upd V obs.length v o = V o) ∨ (o = obs.length ∧ ob' = ob ∧ upd V obs.length v o = v) := by
    intro o ob' ho
    rcases Nat.lt_trichotomy o obs.length with hl | hl | hl
    · exact .inl ⟨hl, by rwa [List.getElem?_append_left hl] at ho, upd_ne (by omega)⟩
    · subst hl; simp at ho; exact .inr ⟨rfl, ho.symm, upd_eq⟩
    · rw [List.getElem?_eq_none (by simp; omega)] at ho; cases ho
  refine ⟨h.keep, h.s0, h.snew, h.sheap, ?_, ?_, ?_, ?_⟩
  · intro o ob' ho
    rcases key o ob' ho with ⟨a, b, c⟩ | ⟨rfl, rfl, c⟩
    · exact (h.ob o ob' b).mono (fun _ _ h => h) (fun _ _ _ => rfl) (Evo.push _ _ _ _) c (fun _ _ _ => rfl)
    · exact hob
  · intro o ob' g j ho h1 h2
    rcases key o ob' ho with ⟨a, b, c⟩ | ⟨rfl, rfl, c⟩
    · rw [c] at h2; exact h.off o ob' g j b h1 h2
    · rw [c] at h2; exact (hn g h1 h2).1 j
  · intro o o' ob1 ob2 g ho ho' h1 h2 h3 h4
    rcases key o ob1 ho with ⟨a, b, c⟩ | ⟨rfl, rfl, c⟩ <;> rcases key o' ob2 ho' with ⟨a', b', c'⟩ | ⟨rfl, rfl, c'⟩
    · rw [c] at h3; rw [c'] at h4; exact h.inj o o' ob1 ob2 g b b' h1 h2 h3 h4
    · rw [c] at h3; rw [c'] at h4; exact absurd h3 ((hn g h2 h4).2.2 o ob1 b h1)
    · rw [c] at h3; rw [c'] at h4; exact absurd h4 ((hn g h1 h3).2.2 o' ob2 b' h2)
    · rfl
  · intro o ob' g ho h1 h2
    rcases key o ob' ho with ⟨a, b, c⟩ | ⟨rfl, rfl, c⟩
    · rw [c] at h2; exact h.fresh o ob' g b h1 h2
    · rw [c] at h2; exact (hn g h1 h2).2.1

/-- One object turns, and nothing else. -/
theorem St.turn (h : St w0 X S0 obs V S w) {o : Nat} {ob ob' : Ob} (ho : obs[o]? = some ob) (hown : ob.owns = true) {v' : Value} {S' : Nat → Nat → Prop} {w' : World}
    (hos : w'.os = w.os) (htape : w'.tape = w.tape) (hout : w'.output = w.output) (hsize : w.heap.size ≤ w'.heap.size)
    (hblk : ∀ k, k < w.heap.size → ownB (V o) ≠ some k → w'.heap[k]? = w.heap[k]?)
    (hS : ∀ b j, S b j → S' b j) (hS' : ∀ b j, S' b j → S b j ∨ (ownB (V o) = some b ∧ ob'.owns = false) ∨ (w.heap.size ≤ b ∧ b < w'.heap.size ∧ ∀ g, ob'.owns = true → ownB v' = some g → g ≠ b))
    (he : Evo obs V (obs.set o ob') (upd V o v')) (hob : ObOk S' w' (obs.set o ob') (upd V o v') o ob')
    (hnew : ∀ g, ob'.owns = true → ownB v' = some g → ownB (V o) = some g ∨ w.heap.size ≤ g) : St w0 X S0 (obs.set o ob') (upd V o v') S' w' := by
  have hl : o < obs.length := (List.getElem?_eq_some_iff.1 ho).1
  have key : ∀ o1 ob1, (obs.set o ob')[o1]? = some ob1 → (o1 ≠ o ∧ obs[o1]? = some ob1 ∧ upd V o v' o1 = V o1) ∨ (o1 = o ∧ ob1 = ob' ∧ upd V o v' o1 = v') := by
    intro o1 ob1 ho1
    by_cases h' : o1 = o
    · subst h'; simp [hl] at ho1; exact .inr ⟨rfl, ho1.symm, upd_eq⟩
    · rw [List.getElem?_set_ne (Ne.symm h')] at ho1; exact .inl ⟨h', ho1, upd_ne h'⟩
  have hw : ∀ b j, S b j → w'.cell? ⟨b, j, none⟩ = w.cell? ⟨b, j, none⟩ := fun b j hj =>
    cell_block (hblk b (h.sheap b j hj) (fun e => h.off o ob b j ho hown e hj))
  have hlt : ∀ g, ownB (V o) = some g → g < w.heap.size := fun g hg => (h.ob o ob ho).lt hown hg
  refine ⟨?_, fun b j hj => hS b j (h.s0 b j hj), ?_, ?_, ?_, ?_, ?_, ?_⟩
  · refine ⟨hos.trans h.keep.os, htape.trans h.keep.tape, hout.trans h.keep.output, Nat.le_trans h.keep.size hsize, fun k hk hx => ?_⟩
    rw [hblk k (Nat.lt_of_lt_of_le hk h.keep.size) (fun e => (h.fresh o ob k ho hown e).elim (fun h1 => by omega) hx)]
    exact h.keep.block k hk hx
  · intro b j hj
    rcases hS' b j hj with h1 | ⟨h1, _⟩ | ⟨h1, _⟩
    · exact h.snew b j h1
    · exact .inr (h.fresh o ob b ho hown h1)
    · exact .inr (.inl (Nat.le_trans h.keep.size h1))
  · intro b j hj
    rcases hS' b j hj with h1 | ⟨h1, _⟩ | ⟨_, h1, _⟩
    · exact Nat.lt_of_lt_of_le (h.sheap b j h1) hsize
    · exact Nat.lt_of_lt_of_le (hlt b h1) hsize
    · exact h1
  · intro o1 ob1 h1
    rcases key o1 ob1 h1 with ⟨a, b, c⟩ | ⟨rfl, rfl, c⟩
    · exact (h.ob o1 ob1 b).mono hS hw he c (fun g p q => hblk g ((h.ob o1 ob1 b).lt p q) (fun e => a (h.inj o1 o ob1 ob g b ho p hown q e)))
    · exact hob
  · intro o1 ob1 g j h1 h2 h3 h4
    rcases key o1 ob1 h1 with ⟨a, b, c⟩ | ⟨rfl, rfl, c⟩
    · rw [c] at h3
      rcases hS' g j h4 with q | ⟨q, _⟩ | ⟨q, _⟩
      · exact h.off o1 ob1 g j b h2 h3 q
      · exact a (h.inj o1 o ob1 ob g b ho h2 hown h3 q)
      · have := (h.ob o1 ob1 b).lt h2 h3; omega
    · rw [c] at h3
      rcases hS' g j h4 with q | ⟨_, q⟩ | ⟨_, _, q⟩
      · rcases hnew g h2 h3 with p | p
        · exact h.off o1 ob g j ho hown p q
        · have := h.sheap g j q; omega
      · rw [h2] at q; cases q
      · exact q g h2 h3 rfl
  · intro o1 o2 ob1 ob2 g h1 h2 p1 p2 q1 q2
    rcases key o1 ob1 h1 with ⟨a, b, c⟩ | ⟨rfl, rfl, c⟩ <;> rcases key o2 ob2 h2 with ⟨a', b', c'⟩ | ⟨rfl, rfl, c'⟩
    · rw [c] at q1; rw [c'] at q2; exact h.inj o1 o2 ob1 ob2 g b b' p1 p2 q1 q2
    · rw [c] at q1; rw [c'] at q2
      rcases hnew g p2 q2 with p | p
      · exact h.inj o1 o2 ob1 ob g b ho p1 hown q1 p
      · have := (h.ob o1 ob1 b).lt p1 q1; omega
    · rw [c] at q1; rw [c'] at q2
      rcases hnew g p1 q1 with p | p
      · exact (h.inj o2 o1 ob2 ob g b' ho p2 hown q2 p).symm
      · have := (h.ob o2 ob2 b').lt p2 q2; omega
    · rfl
  · intro o1 ob1 g h1 h2 h3
    rcases key o1 ob1 h1 with ⟨a, b, c⟩ | ⟨rfl, rfl, c⟩
    · rw [c] at h3; exact h.fresh o1 ob1 g b h2 h3
    · rw [c] at h3
      rcases hnew g h2 h3 with p | p
      · exact h.fresh o1 ob g ho hown p
      · exact .inl (Nat.le_trans h.keep.size p)
end
end Go.Proofs.YtlhfjjkoflpecaaAw

namespace Go.Proofs.YtlhfjjkoflpecaaAw
open Go.RowKit
set_option linter.unusedSimpArgs false
set_option linter.unusedVariables false

structure Fr where
  w0 : World
  X : Nat → Prop
  S0 : Nat → Nat → Prop
  n0 : Nat
  V0 : Nat → Value

/-- The variables that came in are where they were. -/
def Kpt (F : Fr) (n : Nat) (V : Nat → Value) : Prop :=
  F.n0 ≤ n ∧ ∀ o g, o < F.n0 → F.V0 o = .pointer (some ⟨g, 0, none⟩) → V o = .pointer (some ⟨g, 0, none⟩)
def Rel (F : Fr) (α : AS) (a : Act) (w : World) : Prop :=
  ∃ V S vs, St F.w0 F.X F.S0 α.obs V S w ∧ a.defers = [] ∧ a.tmps = List.toArray vs ∧ RepAs S w α.obs V α.tmps vs ∧ Kpt F α.obs.length V

/-! ### Types -/
structure TI where
  agg : Bool
  kind : Nat
  size : Nat
  bytes : Nat
  zval : Value
  zero : List Dt
  offs : List (Nat × Nat) := []
  elem : TypeId := 0
  arr : Nat := 0
  nil : Dt := .v (.bool false)
  ik : IntKind := .i64
  eqk : Nat := 0
  esz : Nat := 0

structure TOk (P : Program) (t : TypeId) (i : TI) : Prop where
  info : (P.info? t).map (fun q => (q.zero, q.size, q.bytes)) = some (some i.zval, i.size, i.bytes)
  zsz : i.zval.cells.size = i.size
  zrep : ∀ S w obs V, RepAs S w obs V (i.zero.map .d) i.zval.cells.toList
  aggd : ∃ d, P.underlying t = some d ∧ (i.agg = match d with | .struct _ => true | .array _ _ => true | _ => false)
  strt : i.kind = 1 → ∃ fs, P.underlying t = some (.struct fs) ∧ (∀ (k off sz : Nat), i.offs[k]? = some (off, sz) → ∃ f q, fs[k]? = some f ∧ f.offset = off ∧ P.info? f.type = some q ∧ q.size = sz ∧ sz ≠ 0) ∧ ∀ w, Sem.run P (fs.mapM fun f => (do pure (f.offset, ← sizeOf f.type) : Sem (Nat × Nat))) w = .ok i.offs.toArray w
  arrt : i.kind = 2 → P.underlying t = some (.array i.arr i.elem) ∧ (∀ w, (sizeOf i.elem).run P w = .ok i.esz w) ∧ i.offs = (List.range i.arr).map fun k => (k * i.esz, i.esz)
  slct : i.kind = 3 → P.underlying t = some (.slice i.elem) ∧ i.nil.isSl = true ∧ i.nil.len = 0
  str : i.kind = 4 → P.underlying t = some .string
  int : i.kind = 5 → P.underlying t = some (.int i.ik)
  bool : i.kind = 6 → P.underlying t = some .bool
  eq1 : i.eqk = 1 → P.eqGuardType P.depth t = false ∧ ∀ (a b : Int) (s r : ByteArray) w, Sem.run P (Op.equalIn 10000 t (.agg #[.int .i64 a, .string s]) (.agg #[.int .i64 b, .string r])) w = .ok (decide (a = b) && decide (s = r)) w
  eq2 : i.eqk = 2 → P.eqGuardType P.depth t = false ∧ ∀ (a b c d : Int) w, Sem.run P (Op.equalIn 10000 t (.agg #[.int .i64 a, .int .i64 b]) (.agg #[.int .i64 c, .int .i64 d])) w = .ok (decide (a = c) && decide (b = d)) w

/-! ### Operands -/
def fitC : Value → Bool
  | .string s => decide (s.data.toList.length ≤ 4096)
  | .agg _ => false
  | .tuple _ => false
  | _ => true
def constAV : Value → AV
  | .string s => if s.data.toList.length ≤ 4096 then .d (.v (.string s)) else .dead
  | .agg cs => if cs.toList.all fitC = true then .agg (cs.toList.map fun c => .d (.v c)) else .dead
  | .tuple _ => .dead
  | v => .d (.v v)
theorem fitC_ok {v : Value} (h : fitC v = true) : fitV v = true := by
  cases v <;> first | rfl | cases h | skip
  simp only [fitC, decide_eq_true_eq] at h
  refine decide_eq_true ?_
  unfold maxLen
  rename_i s
  have : s.size = s.data.toList.length := (Array.length_toList (xs := s.data)).symm
  rw [this]; omega
def opv (tmps : List AV) : Operand → AV
  | .tmp t => tmps.getD t .dead
  | .const v => constAV v
  | .func f => .fn f []
  | .global _ => .dead

section
variable {S : Nat → Nat → Prop} {w : World} {obs : List Ob} {V : Nat → Value}
theorem RepAs.consts : ∀ cs : List Value, cs.all fitC = true → RepAs S w obs V (cs.map fun c => AV.d (.v c)) cs
  | [], _ => rfl
  | c :: cs, h => by
      simp only [List.all_cons, Bool.and_eq_true] at h
      exact ⟨c, cs, rfl, Rep.v c (fitC_ok h.1), RepAs.consts cs h.2⟩
theorem constAV_ok (v : Value) : RepA S w obs V (constAV v) v := by
  unfold constAV
  split
  · split
    · rename_i s h; exact Rep.v _ (fitC_ok (v := .string s) (decide_eq_true h))
    · trivial
  · split
    · rename_i cs h2; exact ⟨cs.toList, by simp, RepAs.consts _ h2⟩
    · trivial
  · trivial
  · rename_i h1 h2 h3
    refine Rep.v _ ?_
    cases v <;> first | rfl | exact (h1 _ rfl).elim | exact (h2 _ rfl).elim | exact (h3 _ rfl).elim
theorem opv_ok {tmps : List AV} {vs : List Value} {a : Act} (ha : a.tmps = vs.toArray) (h : RepAs S w obs V tmps vs) (x : Operand) : RepA S w obs V (opv tmps x) (a.eval x) := by
  cases x with
  | tmp t =>
    show RepA S w obs V (tmps.getD t .dead) (a.tmps.getD t undef)
    rw [ha]
    cases ht : tmps[t]? with
    | none => simp [List.getD, ht, RepA]
    | some x =>
      obtain ⟨v, hv, hr⟩ := RepAs.get h t x ht
      have : vs.toArray.getD t undef = v := by
        rw [Array.getD_eq_getD_getElem?]; simp [hv]
      rw [this]; simpa [List.getD, ht] using hr
  | const v => exact constAV_ok v
  | global g => trivial
  | func f => exact ⟨[], rfl, rfl⟩
end

/-! ### Pure operations -/
abbrev iv (k : IntKind) (n : Int) : AV := .d (.v (.int k n))
abbrev bv (b : Bool) : AV := .d (.v (.bool b))
abbrev sv (s : ByteArray) : AV := .d (.v (.string s))

def binI (op : BinOp) (k : IntKind) (a b : Int) : Option (Prop × AV) :=
  match op with
  | .add => some (True, iv k (k.wrap (a + b)))
  | .sub => some (True, iv k (k.wrap (a - b)))
  | .mul => some (True, iv k (k.wrap (a * b)))
  | .quo => some (b ≠ 0, iv k (k.wrap (a.tdiv b)))
  | .rem => some (b ≠ 0, iv k (a.tmod b))
  | .xor => some (True, iv k (k.wrap (BitVec.ofInt k.bits a ^^^ BitVec.ofInt k.bits b).toNat))
  | .eql => some (True, bv (decide (a = b)))
  | .neq => some (True, bv (!decide (a = b)))
  | .lss => some (True, bv (decide (a < b)))
  | .leq => some (True, bv (decide (a ≤ b)))
  | .gtr => some (True, bv (decide (a > b)))
  | .geq => some (True, bv (decide (a ≥ b)))
  | _ => none
def binS (op : BinOp) (a b : ByteArray) : Option (Prop × AV) :=
  match op with
  | .add => some (a.size + b.size ≤ maxLen, sv (a ++ b))
  | .eql => some (True, bv (decide (a = b)))
  | .neq => some (True, bv (!decide (a = b)))
  | .lss => some (True, bv (Op.bytesLess a.toList b.toList))
  | .gtr => some (True, bv (!(Op.bytesLess a.toList b.toList || decide (a = b))))
  | _ => none
def binB (op : BinOp) (a b : Bool) : Option (Prop × AV) :=
  match op with
  | .eql => some (True, bv (a == b))
  | .neq => some (True, bv (a != b))
  | _ => none
def binA (op : BinOp) (x y : AV) : Option (Prop × AV) :=
  match x, y with
  | .d (.v (.int k a)), .d (.v (.int k' b)) => if k = k' then binI op k a b else none
  | .d (.v (.string a)), .d (.v (.string b)) => binS op a b
  | .d (.v (.bool a)), .d (.v (.bool b)) => binB op a b
  | _, _ => none

theorem decide_eq_toList (a b : ByteArray) : (a.toList == b.toList) = decide (a = b) := by
  by_cases h : a = b
  · subst h; simp
  · rw [decide_eq_false h]
    refine beq_eq_false_iff_ne.mpr fun e => h ?_
    rw [ByteArray.toList_eq, ByteArray.toList_eq] at e
    cases a; cases b; congr 1; exact Array.toList_inj.mp e

/-- What a pure operation shows. -/
def Pure1 (P : Program) (S : Nat → Nat → Prop) (w : World) (obs : List Ob) (V : Nat → Value) (s : Sem Value) (x : AV) : Prop :=
  ∃ v, s.run P w = .ok v w ∧ RepA S w obs V x v

section
variable {P : Program} {S : Nat → Nat → Prop} {w : World} {obs : List Ob} {V : Nat → Value}

theorem binA_ok {op : BinOp} {t : TypeId} {xo yo : Operand} {x y : AV} {u v : Value} {p : Prop} {r : AV} (hb : ∀ b, y = .d (.v (.bool b)) → P.underlying t = some .bool) (hx : RepA S w obs V x u) (hy : RepA S w obs V y v)
    (h : binA op x y = some (p, r)) (hp : p) : Pure1 P S w obs V (do eqGuard op t xo yo u v; binOp op t u v) r := by
  unfold binA at h
  split at h
  · rename_i k a k' b
    have e1 := Rep.scalar hx; have e2 := Rep.scalar hy
    subst e1; subst e2
    by_cases hk : k = k'
    · subst hk
      simp only [if_true] at h
      unfold binI at h
      cases op <;> simp only [Option.some.injEq, Prod.mk.injEq, reduceCtorEq] at h <;> (try (obtain ⟨rfl, rfl⟩ := h)) <;>
        first
        | exact h.elim
        | (refine ⟨_, ?_, Rep.v _ rfl⟩; simp [go_sem, binOp, Op.intArith, Op.intCmp, Op.intDiv]; done)
        | (refine ⟨_, ?_, Rep.v _ rfl⟩; simp only [binOp, Op.intBits]; simp [go_sem]; done)
        | (refine ⟨_, ?_, Rep.v _ rfl⟩; simp [go_sem, binOp, Op.intArith, Op.intCmp, Op.intDiv, hp]; done)
        | (refine ⟨_, ?_, Rep.v _ rfl⟩; simp [go_sem, binOp, Op.intArith, Op.intCmp, Op.intDiv]; rfl)
    · simp [hk] at h
  · rename_i a b
    have e1 := Rep.scalar hx; have e2 := Rep.scalar hy
    subst e1; subst e2
    unfold binS at h
    cases op <;> simp only [Option.some.injEq, Prod.mk.injEq, reduceCtorEq] at h <;> (try (obtain ⟨rfl, rfl⟩ := h)) <;> try exact h.elim
    · refine ⟨.string (a ++ b), ?_, Rep.v _ (decide_eq_true (by rw [ByteArray.size_append]; exact hp))⟩
      have hi : ¬ (((a.size + b.size : Nat) : Int) > IntKind.i64.max) := by
        have : IntKind.i64.max = 9223372036854775807 := by decide
        rw [this]; unfold maxLen at hp; omega
      have : (Op.stringOp .add a b) = pure (.string (a ++ b)) := by
        unfold Op.stringOp; simp only; rw [if_neg hi]
      rw [eqGuard_add]
      show (binOp .add t (.string a) (.string b)).run P w = _
      have e : binOp .add t (.string a) (.string b) = Op.stringOp .add a b := rfl
      rw [e, this]; rfl
    all_goals (refine ⟨_, ?_, Rep.v _ rfl⟩; simp [go_sem, binOp, Op.stringOp, decide_eq_toList])
  · rename_i a b
    replace hb := hb b rfl
    have e1 := Rep.scalar hx; have e2 := Rep.scalar hy
    subst e1; subst e2
    unfold binB at h
    cases op <;> simp only [Option.some.injEq, Prod.mk.injEq, reduceCtorEq] at h <;> (try (obtain ⟨rfl, rfl⟩ := h)) <;> try exact h.elim
    all_goals (refine ⟨_, ?_, Rep.v _ rfl⟩; simp [go_sem, hb, bne])
  · cases h

def unA (op : UnOp) (x : AV) : Option (Prop × AV) :=
  match x with
  | .d (.v (.bool b)) => match op with | .not => some (True, bv (!b)) | _ => none
  | .d (.v (.int k a)) => match op with | .neg => some (True, iv k (k.wrap (0 - a))) | _ => none
  | _ => none
theorem unA_ok {op : UnOp} {x : AV} {u : Value} {p : Prop} {r : AV} (hx : RepA S w obs V x u) (h : unA op x = some (p, r)) : Pure1 P S w obs V (Op.unary op u) r := by
  unfold unA at h
  split at h
  · have e1 := Rep.scalar hx; subst e1
    cases op <;> simp only [Option.some.injEq, Prod.mk.injEq, reduceCtorEq] at h <;> (try (obtain ⟨rfl, rfl⟩ := h)) <;> try exact h.elim
    exact ⟨_, rfl, Rep.v _ rfl⟩
  · have e1 := Rep.scalar hx; subst e1
    cases op <;> simp only [Option.some.injEq, Prod.mk.injEq, reduceCtorEq] at h <;> (try (obtain ⟨rfl, rfl⟩ := h)) <;> try exact h.elim
    exact ⟨_, rfl, Rep.v _ rfl⟩
  · cases h

/-- The byte at a place of a string. -/
def bt (s : ByteArray) (i : Int) : Int := ((s.data.toList.getD i.toNat 0).toNat : Int)
def indexStr (x y : AV) : Option (Prop × AV) :=
  match x, y with
  | .d (.v (.string s)), .d (.v (.int _ i)) => some (0 ≤ i ∧ i < s.size, iv .u8 (bt s i))
  | _, _ => none
theorem indexStr_ok {t : TypeId} {x y : AV} {u v : Value} {p : Prop} {r : AV} (ht : P.underlying t = some .string) (hx : RepA S w obs V x u) (hy : RepA S w obs V y v)
    (h : indexStr x y = some (p, r)) (hp : p) : Pure1 P S w obs V (Instr.index t u v) r := by
  unfold indexStr at h
  split at h
  · rename_i s k i
    have e1 := Rep.scalar hx; have e2 := Rep.scalar hy
    subst e1; subst e2
    simp only [Option.some.injEq, Prod.mk.injEq] at h
    obtain ⟨rfl, rfl⟩ := h
    refine ⟨_, ?_, Rep.v _ rfl⟩
    have hlt : i.toNat < s.size := by omega
    have hb : s[i.toNat]? = some (s[i.toNat]'hlt) := by simp [hlt]
    have hbt : bt s i = ((s[i.toNat]'hlt).toNat : Int) := by
      unfold bt
      have : s.data.toList[i.toNat]? = some (s[i.toNat]'hlt) := by
        rw [Array.getElem?_toList]
        show s.data[i.toNat]? = _
        rw [Array.getElem?_eq_getElem (by exact hlt)]; rfl
      rw [List.getD_eq_getElem?_getD, this]; rfl
    simp [Instr.index, asIntOf, run_underlying ht, hp.1, hb, hbt, go_sem]
  · cases h

def sliceStr (x : AV) (lo hi : Option AV) : Option (Prop × AV) :=
  match x, lo, hi with
  | .d (.v (.string s)), some (.d (.v (.int _ i))), some (.d (.v (.int _ j))) => some (0 ≤ i ∧ i ≤ j ∧ j ≤ s.size, sv (s.extract i.toNat j.toNat))
  | .d (.v (.string s)), none, some (.d (.v (.int _ j))) => some (0 ≤ j ∧ j ≤ s.size, sv (s.extract 0 j.toNat))
  | .d (.v (.string s)), some (.d (.v (.int _ i))), none => some (0 ≤ i ∧ i ≤ s.size, sv (s.extract i.toNat s.size))
  | _, _, _ => none
def RepO (S : Nat → Nat → Prop) (w : World) (obs : List Ob) (V : Nat → Value) : Option AV → Option Value → Prop
  | none, v => v = none
  | some x, v => ∃ u, v = some u ∧ RepA S w obs V x u
theorem fit_extract {s : ByteArray} {v : Value} (h : RepA S w obs V (.d (.v (.string s))) v) (a b : Nat) : fitV (.string (s.extract a b)) = true := by
  have := Rep.str h
  refine decide_eq_true ?_
  rw [ByteArray.size_extract]; omega
theorem sliceStr_ok {t : TypeId} {x : AV} {lo hi : Option AV} {u : Value} {lv hv : Option Value} {p : Prop} {r : AV} (ht : P.underlying t = some .string) (hx : RepA S w obs V x u)
    (hl : RepO S w obs V lo lv) (hh : RepO S w obs V hi hv) (h : sliceStr x lo hi = some (p, r)) (hp : p) : Pure1 P S w obs V (Instr.sliceAt t u lv hv none) r := by
  unfold sliceStr at h
  split at h
  · rename_i s k i k' j
    obtain ⟨l, rfl, hl⟩ := hl
    obtain ⟨m, rfl, hm⟩ := hh
    have e1 := Rep.scalar hx; have e2 := Rep.scalar hl; have e3 := Rep.scalar hm
    subst e1; subst e2; subst e3
    simp only [Option.some.injEq, Prod.mk.injEq] at h
    obtain ⟨rfl, rfl⟩ := h
    refine ⟨_, ?_, Rep.v _ (fit_extract hx _ _)⟩
    have h1 : i ≤ (j.toNat : Int) := by omega
    have h2 : 0 ≤ j := by omega
    have hfit := Rep.str hx
    simp [Instr.sliceAt, Instr.slice, Instr.sliceBounds, Instr.sliceBound, asIntOf, run_underlying ht, hp.1, hp.2.2, h1, h2, go_sem]
    intro hh; omega
  · rename_i s k' j
    obtain ⟨m, rfl, hm⟩ := hh
    obtain rfl : lv = none := hl
    have e1 := Rep.scalar hx; have e3 := Rep.scalar hm
    subst e1; subst e3
    simp only [Option.some.injEq, Prod.mk.injEq] at h
    obtain ⟨rfl, rfl⟩ := h
    refine ⟨_, ?_, Rep.v _ (fit_extract hx _ _)⟩
    simp [Instr.sliceAt, Instr.slice, Instr.sliceBounds, Instr.sliceBound, asIntOf, run_underlying ht, hp.1, hp.2, go_sem]
  · rename_i s k i
    obtain ⟨l, rfl, hl⟩ := hl
    obtain rfl : hv = none := hh
    have e1 := Rep.scalar hx; have e2 := Rep.scalar hl
    subst e1; subst e2
    simp only [Option.some.injEq, Prod.mk.injEq] at h
    obtain ⟨rfl, rfl⟩ := h
    refine ⟨_, ?_, Rep.v _ (fit_extract hx _ _)⟩
    simp [Instr.sliceAt, Instr.slice, Instr.sliceBounds, Instr.sliceBound, asIntOf, run_underlying ht, hp.1, hp.2, go_sem]
  · cases h
end
end Go.Proofs.YtlhfjjkoflpecaaAw

namespace Go.Proofs.YtlhfjjkoflpecaaAw
open Go.RowKit
set_option linter.unusedSimpArgs false
set_option linter.unusedVariables false

section
variable {P : Program} {S : Nat → Nat → Prop} {w : World} {obs : List Ob} {V : Nat → Value} {t : TypeId} {i : TI}

theorem TOk.run_info (h : TOk P t i) : ∃ q, (typeInfo t).run P w = .ok q w ∧ P.info? t = some q ∧ q.zero = some i.zval ∧ q.size = i.size ∧ q.bytes = i.bytes := by
  have := h.info
  cases hq : P.info? t with
  | none => rw [hq] at this; cases this
  | some q =>
    rw [hq] at this
    simp only [Option.map_some, Option.some.injEq, Prod.mk.injEq] at this
    exact ⟨q, by simp [typeInfo, hq, go_sem], rfl, this.1, this.2.1, this.2.2⟩
theorem TOk.run_size (h : TOk P t i) : (sizeOf t).run P w = .ok i.size w := by
  obtain ⟨q, h1, h2, h3, h4, h5⟩ := h.run_info (w := w)
  simp [sizeOf, h1, h4, go_sem]
theorem TOk.run_zero (h : TOk P t i) : (zeroValue t).run P w = .ok i.zval w := by
  obtain ⟨q, h1, h2, h3, h4, h5⟩ := h.run_info (w := w)
  simp [zeroValue, h1, h3, go_sem]
theorem TOk.run_agg (h : TOk P t i) : (isAgg t).run P w = .ok i.agg w := by
  obtain ⟨d, h1, h2⟩ := h.aggd
  rw [h2]
  unfold isAgg
  simp only [Sem.run_bind, run_underlying h1, Result.andThen_ok]
  cases d <;> rfl
theorem add_at (g o j : Nat) : (⟨g, o, none⟩ : Addr).add j = ⟨g, o + j, none⟩ := Addr.add_lit g o j

theorem run_loadVar_agg (h : TOk P t i) (ha : i.agg = true) (g o : Nat) (us : List Value) (hl : us.length = i.size)
    (hc : ∀ j u, us[j]? = some u → w.cell? ⟨g, o + j, none⟩ = some u) : (loadVar t ⟨g, o, none⟩).run P w = .ok (.agg us.toArray) w := by
  unfold loadVar
  simp only [Sem.run_bind, h.run_agg, Result.andThen_ok, ha, if_true, h.run_size]
  rw [← hl, run_loadCells_list w _ us (fun j v hv => by rw [add_at]; exact hc j v hv)]
  rfl
theorem run_loadVar_one (h : TOk P t i) (ha : i.agg = false) (g o : Nat) (u : Value)
    (hc : w.cell? ⟨g, o, none⟩ = some u) : (loadVar t ⟨g, o, none⟩).run P w = .ok u w := by
  unfold loadVar
  simp only [Sem.run_bind, h.run_agg, Result.andThen_ok, ha, Bool.false_eq_true, if_false]
  simp [load, Sem.run, hc]
end

/-- What an operation does: a value, new objects, and all that held before holds. -/
def Out (P : Program) (F : Fr) (obs : List Ob) (V : Nat → Value) (S : Nat → Nat → Prop) (w : World) (s : Sem Value) (x : AV) (obs' : List Ob) : Prop :=
  ∃ v w' V' S', s.run P w = .ok v w' ∧ St F.w0 F.X F.S0 obs' V' S' w' ∧ (∀ y u, RepA S w obs V y u → RepA S' w' obs' V' y u) ∧ RepA S' w' obs' V' x v
theorem Out.pure {P : Program} {F : Fr} {obs : List Ob} {V : Nat → Value} {S : Nat → Nat → Prop} {w : World} {s : Sem Value} {x : AV} (hst : St F.w0 F.X F.S0 obs V S w)
    (h : Pure1 P S w obs V s x) : Out P F obs V S w s x obs := by
  obtain ⟨v, h1, h2⟩ := h
  exact ⟨v, w, V, S, h1, hst, fun _ _ h => h, h2⟩

/-! ### The cells of a value -/
def cellsOf : AV → Option (List AV)
  | .agg xs => some xs
  | .d x => some [.d x]
  | .row o k => some [.row o k]
  | .ptr o f => some [.ptr o f]
  | .eptr c f => some [.eptr c f]
  | .fn f c => some [.fn f c]
  | _ => none
/-- Each of these stands in one cell. -/
def leafB (obs : List Ob) : AV → Bool
  | .d _ => true
  | .ptr _ _ => true
  | .eptr _ _ => true
  | .fn _ _ => true
  | .row o k => verOf obs o == some k
  | _ => false

section
variable {P : Program} {F : Fr} {S : Nat → Nat → Prop} {w : World} {obs : List Ob} {V : Nat → Value} {t : TypeId} {i : TI}

theorem verOf_get {o k : Nat} (h : verOf obs o = some k) : (∃ e t, obs[o]? = some (.row e t k)) ∨ ∃ t, obs[o]? = some (.set t k) := by
  unfold verOf at h
  cases ho : obs[o]? with
  | none => rw [ho] at h; cases h
  | some ob =>
    rw [ho] at h
    cases ob <;> simp [Ob.ver] at h
    · subst h; exact .inl ⟨_, _, rfl⟩
    · subst h; exact .inr ⟨_, rfl⟩
theorem row_now {o k : Nat} {v : Value} (h : verOf obs o = some k) (hr : RepA S w obs V (.row o k) v) : v = V o := (hr.2 k h).2 rfl
theorem St.isSlice (hst : St F.w0 F.X F.S0 obs V S w) {o k : Nat} (h : verOf obs o = some k) : ∃ A n c, V o = .slice A n c := by
  rcases verOf_get h with ⟨e, t, ho⟩ | ⟨t, ho⟩
  · obtain ⟨h1, xs, ⟨h2, h3, h4⟩, h5⟩ := hst.ob o _ ho
    rcases h4 with ⟨A, p, _⟩ | ⟨g, cap, cur, p, _⟩
    · exact ⟨_, _, _, p⟩
    · exact ⟨_, _, _, p⟩
  · obtain ⟨h1, h2⟩ := hst.ob o _ ho
    obtain ⟨_, A, c, p, _⟩ := Rep.slice h1 h2
    exact ⟨_, _, _, p⟩
theorem leaf_one (hst : St F.w0 F.X F.S0 obs V S w) {x : AV} {v : Value} (hl : leafB obs x = true) (h : RepA S w obs V x v) : v.oneCell' = true := by
  cases x <;> simp only [leafB, Bool.false_eq_true, beq_iff_eq] at hl
  · exact Rep.oneCell h
  · rw [row_now hl h]
    obtain ⟨A, n, c, p⟩ := hst.isSlice hl
    rw [p]; rfl
  · obtain ⟨_, g, _, rfl⟩ := h; rfl
  · obtain ⟨b, o, rfl, _⟩ := h; rfl
  · obtain ⟨vs, rfl, _⟩ := h; rfl
theorem leaves_one (hst : St F.w0 F.X F.S0 obs V S w) : ∀ {xs : List AV} {vs : List Value}, xs.all (leafB obs) = true → RepAs S w obs V xs vs → ∀ u ∈ vs, u.oneCell' = true
  | [], vs, _, h, u, hu => by rw [show vs = [] from h] at hu; cases hu
  | x :: xs, vs, ha, h, u, hu => by
      obtain ⟨v, r, rfl, h2, h3⟩ := h
      simp only [List.all_cons, Bool.and_eq_true] at ha
      rcases List.mem_cons.1 hu with rfl | hu
      · exact leaf_one hst ha.1 h2
      · exact leaves_one hst ha.2 h3 u hu
theorem cellsOf_ok {x : AV} {xs : List AV} {v : Value} (hc : cellsOf x = some xs) (ha : xs.all (leafB obs) = true) (hst : St F.w0 F.X F.S0 obs V S w) (h : RepA S w obs V x v) : RepAs S w obs V xs v.cells.toList := by
  have one : ∀ y, leafB obs y = true → RepA S w obs V y v → RepAs S w obs V [y] v.cells.toList := fun y hl hy => by
    have := leaf_one hst hl hy
    have e : v.cells = #[v] := by cases v <;> first | rfl | simp [Value.oneCell'] at this
    rw [e]; exact ⟨v, [], rfl, hy, rfl⟩
  cases x <;> simp only [cellsOf, Option.some.injEq, reduceCtorEq] at hc <;> subst hc
  case agg xs =>
    obtain ⟨vs, rfl, h2⟩ := h
    exact h2
  all_goals (simp only [List.all_cons, List.all_nil, Bool.and_true] at ha; exact one _ ha h)

/-- A new variable in memory. -/
theorem St.newBox (hst : St F.w0 F.X F.S0 obs V S w) (ty : TypeId) {cells : List AV} {cs : List Value} (hr : RepAs S w obs V cells cs) (h1 : ∀ u ∈ cs, u.oneCell' = true) :
    ∃ V', St F.w0 F.X F.S0 (obs ++ [.box ty cells]) V' S (w.alloc (.cells cs.toArray ty)) ∧
      (∀ y u, RepA S w obs V y u → RepA S (w.alloc (.cells cs.toArray ty)) (obs ++ [.box ty cells]) V' y u) ∧
      RepA S (w.alloc (.cells cs.toArray ty)) (obs ++ [.box ty cells]) V' (.ptr obs.length 0) (.pointer (some ⟨w.heap.size, 0, none⟩)) := by
  have hb : Below w.heap.size w (w.alloc (.cells cs.toArray ty)) := (Below.refl _ _).alloc (Nat.le_refl _) _
  have hw : ∀ b o, S b o → (w.alloc (.cells cs.toArray ty)).cell? ⟨b, o, none⟩ = w.cell? ⟨b, o, none⟩ := fun b o h => cell_block (hb.block b (hst.sheap b o h))
  have mov : ∀ y u, RepA S w obs V y u → RepA S (w.alloc (.cells cs.toArray ty)) (obs ++ [.box ty cells]) (upd V obs.length (.pointer (some ⟨w.heap.size, 0, none⟩))) y u :=
    fun y u h => RepA.mono (fun _ _ h => h) hw (Evo.push _ _ _ _) y u h
  refine ⟨upd V obs.length (.pointer (some ⟨w.heap.size, 0, none⟩)), (hst.grow hb).push _ _ ?_ ?_, mov, ?_⟩
  · exact ⟨w.heap.size, cs, upd_eq, heap_alloc_new w _, RepAs.mono (fun _ _ h => h) hw (Evo.push _ _ _ _) _ _ hr, h1⟩
  · intro g _ hg
    simp only [ownB, Option.some.injEq] at hg
    subst hg
    refine ⟨fun j hj => ?_, .inl hst.keep.size, fun o ob' ho hown hV => ?_⟩
    · have := hst.sheap _ _ hj; omega
    · have := (hst.ob o ob' ho).lt hown hV; omega
  · exact ⟨by simp, w.heap.size, upd_eq, rfl⟩

theorem out_box (hst : St F.w0 F.X F.S0 obs V S w) (ty : TypeId) {x : AV} {xs : List AV} {v : Value} (hx : RepA S w obs V x v) (hc : cellsOf x = some xs) (ha : xs.all (leafB obs) = true) :
    Out P F obs V S w (Instr.box ty v) (.ptr obs.length 0) (obs ++ [.box ty xs]) := by
  have hr := cellsOf_ok hc ha hst hx
  obtain ⟨V', h1, h2, h3⟩ := hst.newBox ty hr (leaves_one hst ha hr)
  refine ⟨_, _, V', S, ?_, h1, h2, h3⟩
  simp [Instr.box, newVar, newRow, newObj, Sem.run, go_sem]
theorem out_alloc (hst : St F.w0 F.X F.S0 obs V S w) (hT : TOk P t i) (old : Value) :
    Out P F obs V S w (Instr.alloc t true old) (.ptr obs.length 0) (obs ++ [.box t (i.zero.map .d)]) := by
  have hr := hT.zrep S w obs V
  have ha : (i.zero.map AV.d).all (leafB obs) = true := by simp [leafB]
  obtain ⟨V', h1, h2, h3⟩ := hst.newBox t hr (leaves_one hst ha hr)
  refine ⟨_, _, V', S, ?_, h1, h2, h3⟩
  have hz := hT.run_zero (w := w)
  simp [Instr.alloc, newVar, newRow, newObj, Sem.run, hz, go_sem]

/-! ### Loads -/
def cut (xs : List AV) (off n : Nat) : List AV := (xs.drop off).take n
def loadA (i : TI) (obs : List Ob) (a : AV) : Option (Prop × AV) :=
  match a with
  | .ptr o off =>
    match obs[o]? with
    | some (.box _ cells) =>
      if i.agg = true then (if off + i.size ≤ cells.length then some (True, .agg (cut cells off i.size)) else none)
      else match cells[off]? with | some x => some (True, x) | none => none
    | _ => none
  | .eptr cells off =>
      if i.agg = true then (if off + i.size ≤ cells.length then some (True, .agg (cut (cells.map .d) off i.size)) else none)
      else match cells[off]? with | some x => some (True, .d x) | none => none
  | .rptr o k j f =>
    if verOf obs o = some k then
      (if i.agg = true then (if f + i.size ≤ (dtAt obs o).sz then some (True, .agg (cut (((dtAt obs o).el j).map .d) f i.size)) else none)
      else match ((dtAt obs o).el j)[f]? with | some x => some (True, .d x) | none => none)
    else none
  | _ => none

theorem cut_get (xs : List AV) (vs : List Value) (off n : Nat) (h : RepAs S w obs V xs vs) : RepAs S w obs V (cut xs off n) ((vs.drop off).take n) := RepAs.take n (RepAs.drop off h)

theorem load_from (hT : TOk P t i) {g b : Nat} {xs : List AV} {vs : List Value} (off : Nat) (hr : RepAs S w obs V xs vs)
    (hc : ∀ (j : Nat) (u : Value), vs[j]? = some u → w.cell? ⟨g, b + j, none⟩ = some u) {r : AV}
    (h : (if i.agg = true then (if off + i.size ≤ xs.length then some (True, .agg (cut xs off i.size)) else none)
      else match xs[off]? with | some x => some (True, x) | none => none : Option (Prop × AV)) = some (True, r)) :
    Pure1 P S w obs V (Instr.loadAt t (.pointer (some ⟨g, b + off, none⟩))) r := by
  have hl := RepAs.length hr
  by_cases ha : i.agg = true
  · rw [if_pos ha] at h
    split at h
    · rename_i hle
      simp only [Option.some.injEq, Prod.mk.injEq, true_and] at h
      subst h
      refine ⟨.agg ((vs.drop off).take i.size).toArray, ?_, _, rfl, cut_get xs vs off i.size hr⟩
      simp only [Instr.loadAt, Instr.sureAddr, Sem.run_bind, Sem.run_pure, Result.andThen_ok]
      refine run_loadVar_agg hT ha g (b + off) _ (by simp; omega) (fun j u hu => ?_)
      have : vs[off + j]? = some u := by
        rw [List.getElem?_take] at hu
        split at hu
        · rwa [List.getElem?_drop] at hu
        · cases hu
      rw [Nat.add_assoc]; exact hc _ _ this
    · cases h
  · rw [if_neg ha] at h
    split at h
    · rename_i x hx
      simp only [Option.some.injEq, Prod.mk.injEq, true_and] at h
      subst h
      obtain ⟨v, hv, hrv⟩ := RepAs.get hr off x hx
      refine ⟨v, ?_, hrv⟩
      simp only [Instr.loadAt, Instr.sureAddr, Sem.run_bind, Sem.run_pure, Result.andThen_ok]
      exact run_loadVar_one hT (by simpa using ha) g (b + off) v (hc _ _ hv)
    · cases h

theorem box_cell {g o : Nat} {cs : List Value} {ty : TypeId} {fr : Nat × Nat} (h : w.heap[g]? = some (.cells cs.toArray ty fr)) : w.cell? ⟨g, o, none⟩ = cs[o]? := by
  simp [World.cell?, h]

/-- What a row of the call's own or a settled one holds, where it lies. -/
theorem row_cells (hst : St F.w0 F.X F.S0 obs V S w) {o k : Nat} (hk : verOf obs o = some k) {g n c : Nat} (hV : V o = .slice (some ⟨g, 0, none⟩) n c) {j : Nat} (hj : j < (dtAt obs o).len) :
    ∃ vs, RepAs S w obs V (((dtAt obs o).el j).map .d) vs ∧ ∀ (q : Nat) (u : Value), vs[q]? = some u → w.cell? ⟨g, j * (dtAt obs o).sz + q, none⟩ = some u := by
  rcases verOf_get hk with ⟨e, t, ho⟩ | ⟨t, ho⟩
  · have hd : dtAt obs o = t := by simp [dtAt, ho, Ob.dt]
    rw [hd] at hj ⊢
    obtain ⟨h1, xs, ⟨h2, h3, h4⟩, h5⟩ := hst.ob o _ ho
    rcases h4 with ⟨A, p, q⟩ | ⟨g', cap, cur, p1, p2, p3, p4, p5, p6, p7⟩
    · omega
    · rw [hV] at p1
      simp only [Value.slice.injEq, Option.some.injEq, Addr.mk.injEq, and_true] at p1
      obtain ⟨rfl, -, -⟩ := p1
      have hlen := Dt.el_len t j h1
      have hxs : ∀ q, q < t.sz → ∃ u, xs[j * t.sz + q]? = some u := fun q hq => by
        have : j * t.sz + q < xs.length := by
          rw [h2]
          calc j * t.sz + q < j * t.sz + t.sz := by omega
            _ = (j + 1) * t.sz := by rw [Nat.add_mul]; omega
            _ ≤ t.len * t.sz := Nat.mul_le_mul_right _ hj
        exact ⟨_, List.getElem?_eq_getElem this⟩
      refine ⟨(List.range t.sz).map (fun q => (xs[j * t.sz + q]?).getD undef), RepAs.of_get (by simp [hlen]) (fun q x v hx hv => ?_), fun q u hu => ?_⟩
      · rw [List.getElem?_map] at hx
        cases hd2 : (t.el j)[q]? with
        | none => rw [hd2] at hx; cases hx
        | some d =>
          rw [hd2] at hx
          simp only [Option.map_some, Option.some.injEq] at hx
          subst hx
          obtain ⟨u, hu, hru⟩ := h5 j q d hj hd2
          have hq : q < t.sz := by rw [← hlen]; exact (List.getElem?_eq_some_iff.1 hd2).1
          simp [hq, hu] at hv
          subst hv
          exact hru
      · by_cases hq : q < t.sz
        · obtain ⟨u', hu'⟩ := hxs q hq
          simp [hq, hu'] at hu
          subst hu
          rw [← p7, List.getElem?_take] at hu'
          split at hu'
          · simp [World.cell?, p2]; simpa using hu'
          · cases hu'
        · rw [List.getElem?_eq_none (by simp; omega)] at hu; cases hu
  · have hd : dtAt obs o = t := by simp [dtAt, ho, Ob.dt]
    rw [hd] at hj ⊢
    obtain ⟨h1, h2⟩ := hst.ob o _ ho
    obtain ⟨hm, A, c', hv, hc, hcell⟩ := Rep.slice h1 h2
    rw [hV] at hv
    simp only [Value.slice.injEq] at hv
    obtain ⟨hA, -, -⟩ := hv
    obtain ⟨b, o', hA', hcell⟩ := hcell (by omega)
    rw [← hA] at hA'
    simp only [Option.some.injEq, Addr.mk.injEq, and_true] at hA'
    obtain ⟨rfl, rfl⟩ := hA'
    have hlen := Dt.el_len t j h1
    refine ⟨(List.range t.sz).map (fun q => (w.cell? ⟨g, 0 + (j * t.sz + q), none⟩).getD undef), RepAs.of_get (by simp [hlen]) (fun q x v hx hv => ?_), fun q u hu => ?_⟩
    · rw [List.getElem?_map] at hx
      cases hd2 : (t.el j)[q]? with
      | none => rw [hd2] at hx; cases hx
      | some d =>
        rw [hd2] at hx
        simp only [Option.map_some, Option.some.injEq] at hx
        subst hx
        obtain ⟨u, hu, _, hru⟩ := hcell j q d hj hd2
        have hq : q < t.sz := by rw [← hlen]; exact (List.getElem?_eq_some_iff.1 hd2).1
        simp only [List.getElem?_map, List.getElem?_range hq, Option.map_some, Option.some.injEq] at hv
        rw [hu] at hv
        simp only [Option.getD_some] at hv
        subst hv
        exact hru
    · by_cases hq : q < t.sz
      · have hd2 : (t.el j)[q]? = some ((t.el j)[q]'(by omega)) := List.getElem?_eq_getElem (by omega)
        obtain ⟨u', hu', _, _⟩ := hcell j q _ hj hd2
        simp only [List.getElem?_map, List.getElem?_range hq, Option.map_some, Option.some.injEq, hu', Option.getD_some] at hu
        subst hu
        rw [Nat.zero_add] at hu'
        exact hu'
      · rw [List.getElem?_eq_none (by simp; omega)] at hu; cases hu

theorem loadA_ok (hst : St F.w0 F.X F.S0 obs V S w) (hT : TOk P t i) {a : AV} {v : Value} (ha : RepA S w obs V a v) {p : Prop} {r : AV} (h : loadA i obs a = some (p, r)) :
    Pure1 P S w obs V (Instr.loadAt t v) r := by
  have hp : p = True := by
    unfold loadA at h
    (repeat' split at h) <;> first | cases h; done | (simp only [Option.some.injEq, Prod.mk.injEq] at h; exact h.1.symm)
  subst hp
  cases a <;> try (simp only [loadA, reduceCtorEq] at h; done)
  · rename_i o off
    obtain ⟨ho, g, hV, rfl⟩ := ha
    unfold loadA at h
    simp only at h
    cases hob : obs[o]? with
    | none => rw [hob] at h; cases h
    | some ob =>
      rw [hob] at h
      cases ob <;> try (cases h; done)
      rename_i ty cells
      obtain ⟨g', cs, q1, q2, q3, q4⟩ := hst.ob o _ hob
      rw [hV] at q1
      simp only [Value.pointer.injEq, Option.some.injEq, Addr.mk.injEq, and_true] at q1
      subst q1
      have := load_from (g := g) (b := 0) hT off q3 (fun j u hu => by rw [Nat.zero_add, box_cell q2]; exact hu) h
      rwa [Nat.zero_add] at this
  · rename_i o k j f
    obtain ⟨ho, hh⟩ := ha
    unfold loadA at h
    simp only at h
    split at h
    · rename_i hk
      obtain ⟨_, hh⟩ := hh k hk
      obtain ⟨g, n, c, hV, hj, rfl⟩ := hh rfl
      obtain ⟨vs, h1, h2⟩ := row_cells hst hk hV hj
      refine load_from (g := g) (b := j * (dtAt obs o).sz) hT f h1 h2 ?_
      have hsl : (dtAt obs o).isSl = true := by
        rcases verOf_get hk with ⟨e, t, ho⟩ | ⟨t, ho⟩
        · simpa [dtAt, ho, Ob.dt] using (hst.ob o _ ho).1
        · simpa [dtAt, ho, Ob.dt] using (hst.ob o _ ho).1
      rw [List.length_map, Dt.el_len _ _ hsl, List.getElem?_map]
      rw [← h]
      congr 1
      cases ((dtAt obs o).el j)[f]? <;> rfl
    · cases h
  · rename_i cells off
    obtain ⟨b, o, rfl, hh⟩ := ha
    have hr : RepAs S w obs V (cells.map .d) ((List.range cells.length).map (fun q => (w.cell? ⟨b, o + q, none⟩).getD undef)) := by
      refine RepAs.of_get (by simp) (fun q x v hx hv => ?_)
      rw [List.getElem?_map] at hx
      cases hd2 : cells[q]? with
      | none => rw [hd2] at hx; cases hx
      | some d =>
        rw [hd2] at hx
        simp only [Option.map_some, Option.some.injEq] at hx
        subst hx
        obtain ⟨u, hu, _, hru⟩ := hh q d hd2
        have hq : q < cells.length := (List.getElem?_eq_some_iff.1 hd2).1
        simp only [List.getElem?_map, List.getElem?_range hq, Option.map_some, Option.some.injEq] at hv
        rw [hu] at hv
        simp only [Option.getD_some] at hv
        subst hv
        exact hru
    refine load_from (g := b) (b := o) hT off hr (fun j u hu => ?_) ?_
    · by_cases hq : j < cells.length
      · obtain ⟨u', hu', _, _⟩ := hh j _ (List.getElem?_eq_getElem hq)
        simp only [List.getElem?_map, List.getElem?_range hq, Option.map_some, Option.some.injEq, hu', Option.getD_some] at hu
        subst hu
        exact hu'
      · rw [List.getElem?_eq_none (by simp; omega)] at hu; cases hu
    · unfold loadA at h
      simp only at h
      rw [List.length_map, List.getElem?_map, ← h]
      congr 1
      cases cells[off]? <;> rfl
end
end Go.Proofs.YtlhfjjkoflpecaaAw

namespace Go.Proofs.YtlhfjjkoflpecaaAw
open Go.RowKit
set_option linter.unusedSimpArgs false
set_option linter.unusedVariables false

section
variable {P : Program} {F : Fr} {S : Nat → Nat → Prop} {w : World} {obs : List Ob} {V : Nat → Value} {t : TypeId} {i : TI}

def fieldA (i : TI) (obs : List Ob) (f : Nat) (x : AV) : Option (Prop × AV) :=
  if i.kind = 1 then
    match i.offs[f]? with
    | some (off, _) =>
      match x with
      | .ptr o a => some (True, .ptr o (a + off))
      | .eptr c a => some (True, .eptr c (a + off))
      | .rptr o k j a => if verOf obs o = some k then some (True, .rptr o k j (a + off)) else none
      | _ => none
    | none => none
  else none
theorem fieldA_ok (hT : TOk P t i) {f : Nat} {x : AV} {v : Value} (hx : RepA S w obs V x v) {p : Prop} {r : AV} (h : fieldA i obs f x = some (p, r)) :
    Pure1 P S w obs V (Instr.fieldAt t v f) r := by
  unfold fieldA at h
  split at h
  · rename_i hk
    obtain ⟨fs, hfs, hoff, _⟩ := hT.strt hk
    split at h
    · rename_i off sz ho
      obtain ⟨fl, q, h1, h2, h3, h4, h5⟩ := hoff f off sz ho
      have h4 : q.size ≠ 0 := by rw [h4]; exact h5
      have run : ∀ g a, (Instr.fieldAt t (.pointer (some ⟨g, a, none⟩)) f).run P w = .ok (.pointer (some ⟨g, a + off, none⟩)) w := fun g a => by
        simp [Instr.fieldAt, run_underlying hfs, h1, Instr.sureAddr, fieldPlace, sizeOf, typeInfo, h3, h4, h2, go_sem]
      split at h
      · simp only [Option.some.injEq, Prod.mk.injEq] at h
        obtain ⟨-, rfl⟩ := h
        obtain ⟨ho, g, hV, rfl⟩ := hx
        exact ⟨_, run g _, ho, g, hV, rfl⟩
      · simp only [Option.some.injEq, Prod.mk.injEq] at h
        obtain ⟨-, rfl⟩ := h
        obtain ⟨b, o, rfl, hh⟩ := hx
        exact ⟨_, run b _, b, o, by rw [Nat.add_assoc], hh⟩
      · split at h
        · rename_i hk
          simp only [Option.some.injEq, Prod.mk.injEq] at h
          obtain ⟨-, rfl⟩ := h
          obtain ⟨ho, hh⟩ := hx
          obtain ⟨_, hh⟩ := hh _ hk
          obtain ⟨g, n, c, hV, hj, rfl⟩ := hh rfl
          refine ⟨_, run g _, ho, fun k0 h0 => ?_⟩
          rw [hk] at h0
          simp only [Option.some.injEq] at h0
          subst h0
          exact ⟨Nat.le_refl _, fun _ => ⟨g, n, c, hV, hj, by rw [Nat.add_assoc]⟩⟩
        · cases h
      · cases h
    · cases h
  · cases h

/-! ### Slices: what a value leads to -/
/-- The list that a slice's value tells. -/
def slOfD : Dt → Option Dt
  | .v (.slice none 0 0) => some (.v (.bool false))
  | t => if t.isSl = true then some t else none
def slOf (obs : List Ob) : AV → Option Dt
  | .d t => slOfD t
  | .row o k => if verOf obs o = some k then some (dtAt obs o) else none
  | _ => none

theorem row_isSl (hst : St F.w0 F.X F.S0 obs V S w) {o k : Nat} (hk : verOf obs o = some k) : (dtAt obs o).isSl = true := by
  rcases verOf_get hk with ⟨e, t, ho⟩ | ⟨t, ho⟩
  · simpa [dtAt, ho, Ob.dt] using (hst.ob o _ ho).1
  · simpa [dtAt, ho, Ob.dt] using (hst.ob o _ ho).1
theorem row_slice (hst : St F.w0 F.X F.S0 obs V S w) {o k : Nat} (hk : verOf obs o = some k) :
    ∃ A c, V o = .slice A (dtAt obs o).len c ∧ (dtAt obs o).len ≤ c ∧ (dtAt obs o).len ≤ maxLen ∧ (0 < (dtAt obs o).len → ∃ b, ∃ q, A = some ⟨b, q, none⟩ ∧
      ∀ j d (e : Nat), j < (dtAt obs o).len → ((dtAt obs o).el j)[e]? = some d → ∃ u, w.cell? ⟨b, q + (j * (dtAt obs o).sz + e), none⟩ = some u ∧ Rep S w d u) := by
  rcases verOf_get hk with ⟨e, t, ho⟩ | ⟨t, ho⟩
  · have hd : dtAt obs o = t := by simp [dtAt, ho, Ob.dt]
    rw [hd]
    obtain ⟨h1, xs, ⟨h2, h3, h4⟩, h5⟩ := hst.ob o _ ho
    rcases h4 with ⟨A, p, q⟩ | ⟨g', cap, cur, p1, p2, p3, p4, p5, p6, p7⟩
    · exact ⟨A, 0, by rw [q]; exact p, by omega, by rw [q]; exact Nat.zero_le _, fun h => by omega⟩
    · refine ⟨_, _, p1, p3, Nat.le_trans p3 p4, fun _ => ⟨g', 0, rfl, fun j d e hj hd => ?_⟩⟩
      obtain ⟨u, hu, hr⟩ := h5 j e d hj hd
      refine ⟨u, ?_, hr⟩
      rw [← p7, List.getElem?_take] at hu
      split at hu
      · simp [World.cell?, p2]; simpa using hu
      · cases hu
  · have hd : dtAt obs o = t := by simp [dtAt, ho, Ob.dt]
    rw [hd]
    obtain ⟨h1, h2⟩ := hst.ob o _ ho
    obtain ⟨hm, A, c', hv, hc, hcell⟩ := Rep.slice h1 h2
    refine ⟨A, c', hv, hc, hm, fun h => ?_⟩
    obtain ⟨b, q, hA, hcell⟩ := hcell h
    exact ⟨b, q, hA, fun j d e hj hd => by
      obtain ⟨u, h1, _, h3⟩ := hcell j e d hj hd
      exact ⟨u, h1, h3⟩⟩
/-- A slice's value, whatever kind. -/
theorem slOf_ok (hst : St F.w0 F.X F.S0 obs V S w) {x : AV} {v : Value} {t : Dt} (hx : RepA S w obs V x v) (h : slOf obs x = some t) :
    ∃ A c, v = .slice A t.len c ∧ t.len ≤ c ∧ t.len ≤ maxLen ∧ (0 < t.len → ∃ b, ∃ q, A = some ⟨b, q, none⟩ ∧
      ∀ j d (e : Nat), j < t.len → (t.el j)[e]? = some d → ∃ u, w.cell? ⟨b, q + (j * t.sz + e), none⟩ = some u ∧ Rep S w d u) := by
  unfold slOf at h
  split at h
  · unfold slOfD at h
    split at h
    · simp only [Option.some.injEq] at h
      subst h
      have e1 := Rep.scalar hx; subst e1
      exact ⟨none, 0, rfl, Nat.le_refl _, Nat.zero_le _, fun h => by simp [Dt.len] at h⟩
    split at h
    · rename_i hs
      simp only [Option.some.injEq] at h
      subst h
      obtain ⟨hm, A, c', hv, hc, hcell⟩ := Rep.slice hs hx
      refine ⟨A, c', hv, hc, hm, fun h => ?_⟩
      obtain ⟨b, q, hA, hcell⟩ := hcell h
      exact ⟨b, q, hA, fun j d e hj hd => by
        obtain ⟨u, h1, _, h3⟩ := hcell j e d hj hd
        exact ⟨u, h1, h3⟩⟩
    · cases h
  · split at h
    · rename_i hk
      simp only [Option.some.injEq] at h
      subst h
      rw [row_now hk hx]
      exact row_slice hst hk
    · cases h
  · cases h

def lenA (i : TI) (obs : List Ob) (x : AV) : Option (Prop × AV) :=
  if i.kind = 4 then (match x with | .d (.v (.string s)) => some (True, iv .i64 s.size) | _ => none)
  else if i.kind = 3 then (match slOf obs x with | some t => some (True, iv .i64 t.len) | none => none)
  else if i.kind = 2 then some (True, iv .i64 i.arr)
  else none
theorem lenA_ok (hst : St F.w0 F.X F.S0 obs V S w) (hT : TOk P t i) (ty : TypeId) {x : AV} {v : Value} (hx : RepA S w obs V x v) {p : Prop} {r : AV} (h : lenA i obs x = some (p, r)) :
    Pure1 P S w obs V (Builtin.len_ #[t] ty #[v]) r := by
  unfold lenA at h
  split at h
  · rename_i hk
    split at h
    · simp only [Option.some.injEq, Prod.mk.injEq] at h
      obtain ⟨-, rfl⟩ := h
      have e1 := Rep.scalar hx; subst e1
      exact ⟨_, by simp [Builtin.len_, run_underlying (hT.str hk), goInt, go_sem], Rep.v _ rfl⟩
    · cases h
  · split at h
    · rename_i hk
      split at h
      · rename_i d hd
        simp only [Option.some.injEq, Prod.mk.injEq] at h
        obtain ⟨-, rfl⟩ := h
        obtain ⟨A, c, rfl, _⟩ := slOf_ok hst hx hd
        exact ⟨_, by simp [Builtin.len_, run_underlying (hT.slct hk).1, goInt, go_sem], Rep.v _ rfl⟩
      · cases h
    · split at h
      · rename_i hk
        simp only [Option.some.injEq, Prod.mk.injEq] at h
        obtain ⟨-, rfl⟩ := h
        exact ⟨.int .i64 i.arr, by simp only [Builtin.len_]; simp [run_underlying (hT.arrt hk).1, goInt, go_sem], Rep.v _ rfl⟩
      · cases h

def indexA (i : TI) (obs : List Ob) (x y : AV) : Option (Prop × AV) :=
  if i.kind = 3 then
    match y with
    | .d (.v (.int _ n)) =>
      match x with
      | .d t => if t.isSl = true then some (0 ≤ n ∧ n < t.len, .eptr (t.el n.toNat) 0) else none
      | .row o k =>
        match obs[o]? with
        | some (.row _ t k') => if k = k' then some (0 ≤ n ∧ n < t.len, .rptr o k n.toNat 0) else none
        | some (.set t k') => if k = k' then some (0 ≤ n ∧ n < t.len, .eptr (t.el n.toNat) 0) else none
        | _ => none
      | _ => none
    | _ => none
  else if i.kind = 2 then
    match y with
    | .d (.v (.int _ n)) =>
      match x with
      | .ptr o off => some (0 ≤ n ∧ n < i.arr, .ptr o (off + n.toNat * i.esz))
      | _ => none
    | _ => none
  else none
theorem run_indexAt_arr {t : TypeId} {e : TypeId} {a : Addr} {n : Nat} {k : IntKind} {m : Int} {sz : Nat} (ht : P.underlying t = some (.array n e)) (hs : (sizeOf e).run P w = .ok sz w) (h0 : 0 ≤ m) (h1 : m < n) :
    (Instr.indexAt t (.pointer (some a)) (.int k m)).run P w = .ok (.pointer (some (a.add (m.toNat * sz)))) w := by
  simp [Instr.indexAt, run_underlying ht, asIntOf, Instr.sureAddr, h0, h1, hs, go_sem]
theorem run_indexAt {t : TypeId} {e : TypeId} {A : Addr} {n c : Nat} {k : IntKind} {m : Int} {sz : Nat} (ht : P.underlying t = some (.slice e)) (hs : (sizeOf e).run P w = .ok sz w) (h0 : 0 ≤ m) (h1 : m < n) :
    (Instr.indexAt t (.slice (some A) n c) (.int k m)).run P w = .ok (.pointer (some (A.add (m.toNat * sz)))) w := by
  simp [Instr.indexAt, run_underlying ht, asIntOf, h0, h1, hs, go_sem]
theorem indexA_ok (hst : St F.w0 F.X F.S0 obs V S w) (hT : TOk P t i) {sz : Nat} (hs : ∀ w, (sizeOf i.elem).run P w = .ok sz w) {x y : AV} {v u : Value}
    (hsz : ∀ d, slOf obs x = some d → d.isSl = true → d.sz = sz) (hx : RepA S w obs V x v) (hy : RepA S w obs V y u) {p : Prop} {r : AV} (h : indexA i obs x y = some (p, r)) (hp : p) :
    Pure1 P S w obs V (Instr.indexAt t v u) r := by
  unfold indexA at h
  split at h
  · rename_i hk
    obtain ⟨ht, _⟩ := hT.slct hk
    split at h
    · rename_i k n
      have e1 := Rep.scalar hy; subst e1
      split at h
      · rename_i d
        split at h
        · rename_i hd
          simp only [Option.some.injEq, Prod.mk.injEq] at h
          obtain ⟨rfl, rfl⟩ := h
          have hz : d.sz = sz := hsz d (by cases d <;> first | rfl | simp [Dt.isSl] at hd) hd
          obtain ⟨hm, A, c', rfl, hc, hcell⟩ := Rep.slice hd hx
          obtain ⟨b, q, rfl, hce⟩ := hcell (by omega)
          refine ⟨_, run_indexAt ht (hs w) hp.1 hp.2, b, q + n.toNat * sz, by rw [add_at, Nat.add_zero], fun j d' hd' => ?_⟩
          obtain ⟨u, h1, h2, h3⟩ := hce n.toNat j d' (by omega) hd'
          rw [hz] at h1 h2
          rw [Nat.add_assoc]
          exact ⟨u, h1, h2, h3⟩
        · cases h
      · rename_i o k1
        have hl : o < obs.length := hx.1
        split at h
        · rename_i e t' k' ho
          split at h
          · rename_i hkk
            subst hkk
            have hk' : verOf obs o = some k1 := by simp [verOf, ho, Ob.ver]
            have hd : dtAt obs o = t' := by simp [dtAt, ho, Ob.dt]
            simp only [Option.some.injEq, Prod.mk.injEq] at h
            obtain ⟨rfl, rfl⟩ := h
            obtain ⟨h1, xs, ⟨h2, h3, h4⟩, h5⟩ := hst.ob o _ ho
            have hz : t'.sz = sz := hsz _ (by simp [slOf, hk', hd]) h1
            rw [row_now hk' hx]
            rcases h4 with ⟨A, p, q⟩ | ⟨g', cap, cur, p1, p2, p3, p4, p5, p6, p7⟩
            · omega
            · rw [p1]
              refine ⟨_, run_indexAt ht (hs w) hp.1 hp.2, hl, fun k0 h0 => ?_⟩
              rw [hk'] at h0
              simp only [Option.some.injEq] at h0
              subst h0
              exact ⟨Nat.le_refl _, fun _ => ⟨g', _, _, p1, by rw [hd]; omega, by rw [add_at, hd, hz]; simp⟩⟩
          · cases h
        · rename_i t' k' ho
          split at h
          · rename_i hkk
            subst hkk
            have hk' : verOf obs o = some k1 := by simp [verOf, ho, Ob.ver]
            have hd : dtAt obs o = t' := by simp [dtAt, ho, Ob.dt]
            simp only [Option.some.injEq, Prod.mk.injEq] at h
            obtain ⟨rfl, rfl⟩ := h
            obtain ⟨h1, h2⟩ := hst.ob o _ ho
            have hz : t'.sz = sz := hsz _ (by simp [slOf, hk', hd]) h1
            rw [row_now hk' hx]
            obtain ⟨hm, A, c', hv, hc, hcell⟩ := Rep.slice h1 h2
            rw [hv]
            obtain ⟨b, q, rfl, hce⟩ := hcell (by omega)
            refine ⟨_, run_indexAt ht (hs w) hp.1 hp.2, b, q + n.toNat * sz, by rw [add_at, Nat.add_zero], fun j d' hd' => ?_⟩
            obtain ⟨u, h1, h2, h3⟩ := hce n.toNat j d' (by omega) hd'
            rw [hz] at h1 h2
            rw [Nat.add_assoc]
            exact ⟨u, h1, h2, h3⟩
          · cases h
        · cases h
      · cases h
    · cases h
  · split at h
    · rename_i hk
      obtain ⟨ht, hs2, _⟩ := hT.arrt hk
      split at h
      · rename_i k n
        have e1 := Rep.scalar hy; subst e1
        split at h
        · rename_i o off
          simp only [Option.some.injEq, Prod.mk.injEq] at h
          obtain ⟨rfl, rfl⟩ := h
          obtain ⟨h1, g, h2, rfl⟩ := hx
          exact ⟨_, run_indexAt_arr ht (hs2 w) hp.1 hp.2, h1, g, h2, by rw [add_at]⟩
        · cases h
      · cases h
    · cases h

/-! ### Small ones -/
def nilCheckA (x : AV) : Option (Prop × AV) :=
  match x with
  | .ptr o f => some (True, .ptr o f)
  | .eptr c f => some (True, .eptr c f)
  | .fn f c => some (True, .fn f c)
  | _ => none
def extractA (ix : Nat) (x : AV) : Option (Prop × AV) :=
  match x with
  | .tup xs => match xs[ix]? with | some y => some (True, y) | none => none
  | _ => none
theorem extractA_ok {ix : Nat} {x : AV} {v : Value} (hx : RepA S w obs V x v) {p : Prop} {r : AV} (h : extractA ix x = some (p, r)) : Pure1 P S w obs V (Instr.extract v ix) r := by
  unfold extractA at h
  split at h
  · split at h
    · rename_i xs y hy
      simp only [Option.some.injEq, Prod.mk.injEq] at h
      obtain ⟨-, rfl⟩ := h
      obtain ⟨vs, rfl, hr⟩ := hx
      obtain ⟨u, hu, hru⟩ := RepAs.get hr ix _ hy
      exact ⟨u, by simp [Instr.extract, hu, go_sem], hru⟩
    · cases h
  · cases h
/-- '&&', '||': the second part may not have been looked at. -/
def pickA (c x y : AV) : Option (Prop × AV) :=
  match c with
  | .d (.v (.bool b)) =>
    match x with
    | .d (.v (.bool bx)) =>
      match y with
      | .d (.v (.bool yb)) => some (True, bv (bif b then bx else yb))
      | .g gy (.d (.v (.bool yb))) => some (b = false → gy = true, bv (bif b then bx else yb))
      | _ => none
    | .g gx (.d (.v (.bool bx))) =>
      match y with
      | .d (.v (.bool yb)) => some (b = true → gx = true, bv (bif b then bx else yb))
      | .g gy (.d (.v (.bool yb))) => some ((b = true → gx = true) ∧ (b = false → gy = true), bv (bif b then bx else yb))
      | _ => none
    | _ => none
  | _ => none
theorem pickA_ok {c x y : AV} {cv u v : Value} {p : Prop} {r : AV} (hc : RepA S w obs V c cv) (hx : RepA S w obs V x u) (hy : RepA S w obs V y v) (h : pickA c x y = some (p, r)) (hp : p) :
    ∃ b, cv = .bool b ∧ RepA S w obs V r (if b then u else v) := by
  unfold pickA at h
  split at h
  · rename_i b
    have e1 := Rep.scalar hc; subst e1
    split at h
    · have e2 := Rep.scalar hx; subst e2
      split at h
      · have e3 := Rep.scalar hy; subst e3
        simp only [Option.some.injEq, Prod.mk.injEq] at h
        obtain ⟨-, rfl⟩ := h
        exact ⟨b, rfl, by cases b <;> exact Rep.v _ rfl⟩
      · simp only [Option.some.injEq, Prod.mk.injEq] at h
        obtain ⟨rfl, rfl⟩ := h
        cases b
        · have e3 := Rep.scalar ((hy).1 (hp rfl)); subst e3
          exact ⟨_, rfl, Rep.v _ rfl⟩
        · exact ⟨_, rfl, Rep.v _ rfl⟩
      · cases h
    · split at h
      · have e3 := Rep.scalar hy; subst e3
        simp only [Option.some.injEq, Prod.mk.injEq] at h
        obtain ⟨rfl, rfl⟩ := h
        cases b
        · exact ⟨_, rfl, Rep.v _ rfl⟩
        · have e2 := Rep.scalar ((hx).1 (hp rfl)); subst e2
          exact ⟨_, rfl, Rep.v _ rfl⟩
      · simp only [Option.some.injEq, Prod.mk.injEq] at h
        obtain ⟨rfl, rfl⟩ := h
        cases b
        · have e3 := Rep.scalar ((hy).1 (hp.2 rfl)); subst e3
          exact ⟨_, rfl, Rep.v _ rfl⟩
        · have e2 := Rep.scalar ((hx).1 (hp.1 rfl)); subst e2
          exact ⟨_, rfl, Rep.v _ rfl⟩
      · cases h
    · cases h
  · cases h

def convA (src dst : TI) (obs : List Ob) (x : AV) : Option (Prop × AV) :=
  if dst.kind = 5 then
    match x with
    | .d (.v (.int _ n)) => some (True, iv dst.ik (dst.ik.wrap n))
    | _ => none
  else if dst.kind = 4 then
    match x with
    | .d (.v (.string s)) => if src.kind = 4 then some (True, sv s) else none
    | x => if src.kind = 3 then
        (match slOf obs x with
        | some (.bytes xs) => if src.arr = 1 then some (True, sv ⟨(xs.map fun n => UInt8.ofNat n.toNat).toArray⟩) else none
        | _ => none) else none
  else none
theorem foldl_push (ns : List Int) (s : ByteArray) : ns.foldl (fun r n => r.push (UInt8.ofNat n.toNat)) s = ⟨s.data ++ (ns.map fun n => UInt8.ofNat n.toNat).toArray⟩ := by
  induction ns generalizing s with
  | nil => simp
  | cons n ns ih =>
    rw [List.foldl_cons, ih]
    congr 1
    simp [ByteArray.push]
theorem convA_ok (hst : St F.w0 F.X F.S0 obs V S w) {src dst : TypeId} {i j : TI} (hS : TOk P src i) (hD : TOk P dst j) (hb : i.kind = 3 → i.arr = 1 → P.underlying i.elem = some (.int .u8)) {x : AV} {v : Value} (hx : RepA S w obs V x v) {p : Prop} {r : AV}
    (h : convA i j obs x = some (p, r)) : Pure1 P S w obs V (convert src dst v) r := by
  unfold convA at h
  obtain ⟨ds, hs, _⟩ := hS.aggd
  split at h
  · rename_i hk
    have hd := hD.int hk
    split at h
    · simp only [Option.some.injEq, Prod.mk.injEq] at h
      obtain ⟨-, rfl⟩ := h
      have e1 := Rep.scalar hx; subst e1
      exact ⟨_, by simp [convert, run_underlying hs, run_underlying hd, Conv.intToInt, go_sem], Rep.v _ rfl⟩
    · cases h
  · split at h
    · rename_i hk
      have hd := hD.str hk
      split at h
      · split at h
        · simp only [Option.some.injEq, Prod.mk.injEq] at h
          obtain ⟨-, rfl⟩ := h
          have e1 := Rep.scalar hx; subst e1
          exact ⟨_, by simp [convert, run_underlying hs, run_underlying hd, go_sem], hx⟩
        · cases h
      · split at h
        · rename_i hk3
          obtain ⟨hsl, _⟩ := hS.slct hk3
          split at h
          · rename_i xs hxs
            split at h
            · rename_i ha
              simp only [Option.some.injEq, Prod.mk.injEq] at h
              obtain ⟨-, rfl⟩ := h
              obtain ⟨A, c, rfl, _, hml, hce⟩ := slOf_ok hst hx hxs
              refine ⟨_, ?_, Rep.v _ (decide_eq_true (by show (List.toArray _).size ≤ _; simpa [Dt.len] using hml))⟩
              have he := hb hk3 ha
              have conv : ∀ A, (convert src dst (.slice A (Dt.bytes xs).len c)).run P w = (Conv.bytesToString (.slice A (Dt.bytes xs).len c)).run P w := fun A => by
                simp [convert, run_underlying hsl, run_underlying hd, run_underlying he]
              rw [conv]
              by_cases h0 : xs = []
              · subst h0
                cases A with
                | none => rfl
                | some a => simp [Conv.bytesToString, Dt.len, loadCells, loadCellsFrom, go_sem]; rfl
              · have hl : 0 < (Dt.bytes xs).len := List.length_pos_iff.2 h0
                obtain ⟨b, q, rfl, hc2⟩ := hce hl
                rw [run_bytesToString w _ _ _ xs]
                · rw [foldl_push]; simp
                · have : (Dt.bytes xs).len = (xs.map (Value.int .u8)).length := by simp [Dt.len]
                  rw [this]
                  refine run_loadCells_list w _ _ (fun j v hv => ?_)
                  rw [List.getElem?_map] at hv
                  cases hj : xs[j]? with
                  | none => rw [hj] at hv; cases hv
                  | some n =>
                    rw [hj] at hv
                    simp only [Option.map_some, Option.some.injEq] at hv
                    subst hv
                    have hjl : j < xs.length := (List.getElem?_eq_some_iff.1 hj).1
                    obtain ⟨u, hu, hr⟩ := hc2 j (.v (.int .u8 n)) 0 hjl (by simp [Dt.el, List.getD_eq_getElem?_getD, hj])
                    rw [Rep.scalar hr] at hu
                    rw [add_at]
                    simpa [Dt.sz] using hu
            · cases h
          · cases h
        · cases h
    · cases h
end
end Go.Proofs.YtlhfjjkoflpecaaAw

namespace Go.Proofs.YtlhfjjkoflpecaaAw
open Go.RowKit
set_option linter.unusedSimpArgs false
set_option linter.unusedVariables false

section
variable {P : Program} {F : Fr} {S : Nat → Nat → Prop} {w : World} {obs : List Ob} {V : Nat → Value} {t : TypeId} {i : TI}

/-! ### A row of the call's own is settled: from now on nobody writes it -/
def SetS (S : Nat → Nat → Prop) (g : Option Nat) : Nat → Nat → Prop := fun b j => S b j ∨ g = some b

theorem rep_of_row {e : TypeId} {d : Dt} {v : Value} {xs : List Value} {S' : Nat → Nat → Prop} (h1 : d.isSl = true) (h : RowAt w e d v xs) (h5 : RepRow S w d xs)
    (hS : ∀ b o, S b o → S' b o) (hg : ∀ g j, ownB v = some g → S' g j) : Rep S' w d v := by
  obtain ⟨h2, h3, h4⟩ := h
  rcases h4 with ⟨A, p, q⟩ | ⟨g, cap, cur, p1, p2, p3, p4, p5, p6, p7⟩
  · rw [p]; exact .nil d h1 q A 0
  · rw [p1]
    refine .sl d h1 g 0 cap (fun j i => (xs[j * d.sz + i]?).getD undef) p3 (Nat.le_trans p3 p4) (fun j i d' hj hd => ?_) (fun j i d' hj hd => ?_) (fun j i d' hj hd => ?_)
    · obtain ⟨u, hu, hr⟩ := h5 j i d' hj hd
      rw [hu]
      rw [← p7, List.getElem?_take] at hu
      split at hu
      · simp [World.cell?, p2]; simpa using hu
      · cases hu
    · exact hg g _ (by rw [p1]; simp [ownB]; omega)
    · obtain ⟨u, hu, hr⟩ := h5 j i d' hj hd
      rw [hu]
      exact Rep.mono hS (fun _ _ _ => rfl) hr

/-- All that held holds. -/
def Mov (S : Nat → Nat → Prop) (w : World) (obs : List Ob) (V : Nat → Value) (S' : Nat → Nat → Prop) (w' : World) (obs' : List Ob) (V' : Nat → Value) : Prop :=
  ∀ y u, RepA S w obs V y u → RepA S' w' obs' V' y u
theorem Mov.refl (S : Nat → Nat → Prop) (w : World) (obs : List Ob) (V : Nat → Value) : Mov S w obs V S w obs V := fun _ _ h => h
theorem Mov.trans {S1 S2 S3 : Nat → Nat → Prop} {w1 w2 w3 : World} {o1 o2 o3 : List Ob} {V1 V2 V3 : Nat → Value} (h : Mov S1 w1 o1 V1 S2 w2 o2 V2) (k : Mov S2 w2 o2 V2 S3 w3 o3 V3) : Mov S1 w1 o1 V1 S3 w3 o3 V3 :=
  fun y u hh => k y u (h y u hh)
theorem Mov.all {S' : Nat → Nat → Prop} {w' : World} {obs' : List Ob} {V' : Nat → Value} (h : Mov S w obs V S' w' obs' V') : ∀ {xs : List AV} {vs : List Value}, RepAs S w obs V xs vs → RepAs S' w' obs' V' xs vs
  | [], _, hh => hh
  | _ :: _, _, hh => by
      obtain ⟨v, r, h1, h2, h3⟩ := hh
      exact ⟨v, r, h1, h _ _ h2, Mov.all h h3⟩

theorem St.settle (hst : St F.w0 F.X F.S0 obs V S w) {o : Nat} {e : TypeId} {d : Dt} {k : Nat} (ho : obs[o]? = some (.row e d k)) :
    ∃ V' S', St F.w0 F.X F.S0 (obs.set o (.set d k)) V' S' w ∧ Mov S w obs V S' w (obs.set o (.set d k)) V' ∧ Rep S' w d (V o) ∧ (∀ b j, S b j → S' b j) := by
  obtain ⟨h1, xs, h2, h5⟩ := hst.ob o _ ho
  have hS : ∀ b j, S b j → SetS S (ownB (V o)) b j := fun _ _ h => .inl h
  have hr : Rep (SetS S (ownB (V o))) w d (V o) := rep_of_row h1 h2 h5 hS (fun g j hg => .inr hg)
  have he : Evo obs V (obs.set o (.set d k)) (upd V o (V o)) := Evo.set ho (fun _ h => h) (fun k1 hk => by
    simp only [Ob.ver, Option.some.injEq] at hk
    subst hk
    exact ⟨k, rfl, Nat.le_refl _, fun _ => ⟨rfl, rfl, rfl⟩⟩)
  refine ⟨upd V o (V o), SetS S (ownB (V o)), hst.turn ho rfl rfl rfl rfl (Nat.le_refl _) (fun _ _ _ => rfl) hS (fun b j h => h.imp_right fun h => .inl ⟨h, rfl⟩) he ⟨h1, ?_⟩ (fun g h => by simp [Ob.owns] at h), ?_, hr, hS⟩
  · rw [upd_eq]; exact hr
  · exact fun y u h => RepA.mono hS (fun _ _ _ => rfl) he y u h

/-- The cells of a value as data: rows of the call's own among them are settled. -/
def freeze1 (obs : List Ob) (x : AV) : Option (Dt × List Ob) :=
  match x with
  | .d d => some (d, obs)
  | .row o k =>
    match obs[o]? with
    | some (.row _ d k') => if k = k' then some (d, obs.set o (.set d k)) else none
    | some (.set d k') => if k = k' then some (d, obs) else none
    | _ => none
  | _ => none
def freezeL (obs : List Ob) : List AV → Option (List Dt × List Ob)
  | [] => some ([], obs)
  | x :: xs =>
    match freeze1 obs x with
    | some (d, obs') =>
      match freezeL obs' xs with
      | some (ds, obs'') => some (d :: ds, obs'')
      | none => none
    | none => none

theorem freeze1_ok (hst : St F.w0 F.X F.S0 obs V S w) {x : AV} {v : Value} (hx : RepA S w obs V x v) {d : Dt} {obs' : List Ob} (h : freeze1 obs x = some (d, obs')) :
    ∃ V' S', St F.w0 F.X F.S0 obs' V' S' w ∧ Mov S w obs V S' w obs' V' ∧ Rep S' w d v := by
  unfold freeze1 at h
  split at h
  · simp only [Option.some.injEq, Prod.mk.injEq] at h
    obtain ⟨rfl, rfl⟩ := h
    exact ⟨V, S, hst, Mov.refl _ _ _ _, hx⟩
  · rename_i o k
    split at h
    · rename_i e d' k' ho
      split at h
      · rename_i hk
        subst hk
        simp only [Option.some.injEq, Prod.mk.injEq] at h
        obtain ⟨rfl, rfl⟩ := h
        obtain ⟨V', S', a, b, c, _⟩ := hst.settle ho
        exact ⟨V', S', a, b, by rw [row_now (by simp [verOf, ho, Ob.ver]) hx]; exact c⟩
      · cases h
    · rename_i d' k' ho
      split at h
      · rename_i hk
        subst hk
        simp only [Option.some.injEq, Prod.mk.injEq] at h
        obtain ⟨rfl, rfl⟩ := h
        exact ⟨V, S, hst, Mov.refl _ _ _ _, by rw [row_now (by simp [verOf, ho, Ob.ver]) hx]; exact (hst.ob o _ ho).2⟩
      · cases h
    · cases h
  · cases h

theorem freezeL_ok : ∀ (xs : List AV) {obs : List Ob} {V : Nat → Value} {S : Nat → Nat → Prop} (vs : List Value) (hst : St F.w0 F.X F.S0 obs V S w) (hx : RepAs S w obs V xs vs) {ds : List Dt} {obs' : List Ob}
    (h : freezeL obs xs = some (ds, obs')), ∃ V' S', St F.w0 F.X F.S0 obs' V' S' w ∧ Mov S w obs V S' w obs' V' ∧ RepAs S' w obs' V' (ds.map .d) vs
  | [], obs, V, S, vs, hst, hx, ds, obs', h => by
      simp only [freezeL, Option.some.injEq, Prod.mk.injEq] at h
      obtain ⟨rfl, rfl⟩ := h
      exact ⟨V, S, hst, Mov.refl _ _ _ _, hx⟩
  | x :: xs, obs, V, S, vs, hst, hx, ds, obs', h => by
      obtain ⟨v, r, rfl, h2, h3⟩ := hx
      unfold freezeL at h
      split at h
      · rename_i d obs1 h1
        obtain ⟨V1, S1, a, b, c⟩ := freeze1_ok hst h2 h1
        split at h
        · rename_i ds1 obs2 h4
          simp only [Option.some.injEq, Prod.mk.injEq] at h
          obtain ⟨rfl, rfl⟩ := h
          obtain ⟨V2, S2, a2, b2, c2⟩ := freezeL_ok xs r a (b.all h3) h4
          exact ⟨V2, S2, a2, b.trans b2, v, r, rfl, b2 _ _ (show RepA S1 w obs1 V1 (.d d) v from c), c2⟩
        · cases h
      · cases h

/-! ### A store -/
def splice (xs : List AV) (off : Nat) (ys : List AV) : List AV := xs.take off ++ (ys ++ xs.drop (off + ys.length))
def Dt.put (t : Dt) (j : Nat) (f : Nat) (ds : List Dt) : Option Dt := none
def storeA (i : TI) (obs : List Ob) (a x : AV) : Option (Prop × List Ob) :=
  match a with
  | .ptr o off =>
    match obs[o]? with
    | some (.box ty cells) =>
      match cellsOf x with
      | some ys => if ys.all (leafB obs) = true ∧ ys.length = i.size ∧ off + i.size ≤ cells.length then some (True, obs.set o (.box ty (splice cells off ys))) else none
      | none => none
    | _ => none
  | _ => none

theorem RepAs.splice {xs ys : List AV} {vs us : List Value} (off : Nat) (h : RepAs S w obs V xs vs) (h' : RepAs S w obs V ys us) :
    RepAs S w obs V (splice xs off ys) (vs.take off ++ (us ++ vs.drop (off + us.length))) := by
  unfold _root_.Go.Proofs.YtlhfjjkoflpecaaAw.splice
  rw [RepAs.length h']
  exact RepAs.append (RepAs.take off h) (RepAs.append h' (RepAs.drop _ h))

theorem run_storeVar (hT : TOk P t i) {g off : Nat} {cs us : List Value} {ty : TypeId} {v : Value} (hv : v.cells.toList = us) (hl : us.length = i.size) (hle : off + us.length ≤ cs.length)
    (hg : w.heap[g]? = some (.cells cs.toArray ty (0, 0))) (h1 : ∀ u ∈ us, u.oneCell' = true) :
    (Instr.storeAt t (.pointer (some ⟨g, off, none⟩)) v).run P w = .ok () (w.setRow g (cs.take off ++ (us ++ cs.drop (off + us.length))).toArray) := by
  have hs := run_storeCells_at P g off ty us 0 cs.toArray w hg (by simpa using hle) h1
  simp only [Nat.add_zero] at hs
  simp only [Instr.storeAt, Instr.sureAddr, Sem.run_bind, Sem.run_pure, Result.andThen_ok, storeVar, hT.run_size]
  have hc : v.cells.size = i.size := by rw [← hl, ← hv]; simp
  rw [if_neg (by simp [hc]), hv, hs]
  simp
theorem out_store (hst : St F.w0 F.X F.S0 obs V S w) (hT : TOk P t i) {a x : AV} {av xv : Value} (ha : RepA S w obs V a av) (hx : RepA S w obs V x xv) {p : Prop} {obs' : List Ob} (h : storeA i obs a x = some (p, obs')) :
    ∃ w' V' S', (Instr.storeAt t av xv).run P w = .ok () w' ∧ St F.w0 F.X F.S0 obs' V' S' w' ∧ Mov S w obs V S' w' obs' V' := by
  unfold storeA at h
  split at h
  · rename_i o off
    obtain ⟨hol, g, hV, rfl⟩ := ha
    split at h
    · rename_i ty cells ho
      split at h
      · rename_i ys hys
        split at h
        · rename_i hh
          obtain ⟨hall, hlen, hle⟩ := hh
          simp only [Option.some.injEq, Prod.mk.injEq] at h
          obtain ⟨-, rfl⟩ := h
          obtain ⟨g', cs, q1, q2, q3, q4⟩ := hst.ob o _ ho
          rw [hV] at q1
          simp only [Value.pointer.injEq, Option.some.injEq, Addr.mk.injEq, and_true] at q1
          subst q1
          have hr := cellsOf_ok hys hall hst hx
          have h1 := leaves_one hst hall hr
          have hul := RepAs.length hr
          have hcl := RepAs.length q3
          have hrun := run_storeVar (P := P) (w := w) hT (v := xv) rfl (by rw [hul, hlen]) (by rw [hul, hlen, hcl]; exact hle) q2 h1
          have hown : ownB (V o) = some g := by rw [hV]; rfl
          have he : Evo obs V (obs.set o (.box ty (splice cells off ys))) (upd V o (V o)) := Evo.set ho (fun _ h => h) (fun k1 hk => by simp [Ob.ver] at hk)
          have hblk : ∀ k, k < w.heap.size → ownB (V o) ≠ some k → (w.setRow g (cs.take off ++ (xv.cells.toList ++ cs.drop (off + xv.cells.toList.length))).toArray).heap[k]? = w.heap[k]? :=
            fun k _ hne => setRow_other w g k _ (fun e => hne (by rw [hown, e]))
          have hw : ∀ b j, S b j → (w.setRow g (cs.take off ++ (xv.cells.toList ++ cs.drop (off + xv.cells.toList.length))).toArray).cell? ⟨b, j, none⟩ = w.cell? ⟨b, j, none⟩ := fun b j hj =>
            cell_block (hblk b (hst.sheap b j hj) (fun e => hst.off o _ b j ho rfl e hj))
          refine ⟨_, upd V o (V o), S, hrun, hst.turn ho rfl rfl rfl rfl (by simp) hblk (fun _ _ h => h) (fun _ _ h => .inl h) he ?_ (fun g' _ hg' => .inl hg'), fun y u hy => RepA.mono (fun _ _ h => h) hw he y u hy⟩
          refine ⟨g, _, by rw [upd_eq]; exact hV, setRow_heap w g _ _ ty _ q2, RepAs.mono (fun _ _ h => h) hw he _ _ (RepAs.splice off q3 hr), fun u hu => ?_⟩
          rcases List.mem_append.1 hu with hu | hu
          · exact q4 u (List.mem_of_mem_take hu)
          · rcases List.mem_append.1 hu with hu | hu
            · exact h1 u hu
            · exact q4 u (List.mem_of_mem_drop hu)
        · cases h
      · cases h
    · cases h
  · cases h
end
end Go.Proofs.YtlhfjjkoflpecaaAw

namespace Go.Proofs.YtlhfjjkoflpecaaAw
open Go.RowKit
set_option linter.unusedSimpArgs false
set_option linter.unusedVariables false

/-! ### Cells back to data -/
def asDocs : Dt → Option (List Doc)
  | .docs ks => some ks
  | .v (.slice none 0 0) => some []
  | _ => none
def asVals : Dt → Option (List Val)
  | .vals ks => some ks
  | .v (.slice none 0 0) => some []
  | _ => none
def asStrs : Dt → Option (List ByteArray)
  | .strs ks => some ks
  | .v (.slice none 0 0) => some []
  | _ => none
def asInts : Dt → Option (List Int)
  | .ints ks => some ks
  | .v (.slice none 0 0) => some []
  | _ => none
def asRows : Dt → Option (List Row)
  | .rows ks => some ks
  | .v (.slice none 0 0) => some []
  | _ => none
def mkDoc : List Dt → Option Doc
  | [.v (.int .i64 a), .v (.int .i64 b), .v (.string s), k] => match asDocs k with | some ks => some ⟨a, b, s, ks⟩ | none => none
  | _ => none
def mkVal : List Dt → Option Val
  | [.v (.int .i64 a), .v (.string s), q, k] => match asStrs q with | some qs => (match asVals k with | some ks => some ⟨a, s, qs, ks⟩ | none => none) | none => none
  | _ => none
def mkRow : List Dt → Option Row
  | [.v (.int .i64 a), .v (.string s)] => some ⟨a, s⟩
  | _ => none
def mkPiece : List Dt → Option Piece
  | [.v (.int .i64 a), .v (.int .i64 b), .v (.string s), k, .v (.int .i64 n), .v (.bool f), p] =>
    match asDocs k with | some ks => (match asInts p with | some ps => some ⟨⟨a, b, s, ks⟩, n, f, ps⟩ | none => none) | none => none
  | _ => none
def mkItem : List Dt → Option Item
  | [.v (.int .i64 n), .v (.int .i64 a), .v (.int .i64 b), .v (.string s), k] => match asDocs k with | some ks => some ⟨n, ⟨a, b, s, ks⟩⟩ | none => none
  | _ => none
def mkStr : List Dt → Option ByteArray
  | [.v (.string s)] => some s
  | _ => none
def mkInt : List Dt → Option Int
  | [.v (.int .i64 n)] => some n
  | _ => none
def mkByte : List Dt → Option Int
  | [.v (.int .u8 n)] => some n
  | _ => none
def mkBool : List Dt → Option Bool
  | [.v (.bool b)] => some b
  | _ => none
def mkRows : List Dt → Option (List Row)
  | [r] => asRows r
  | _ => none

section
variable {S : Nat → Nat → Prop} {w : World} {obs : List Ob} {V : Nat → Value}
/-- What lies as ds lies as es. -/
def CellsLe (ds es : List Dt) : Prop := ds.length = es.length ∧ ∀ S w (i : Nat) d e v, ds[i]? = some d → es[i]? = some e → Rep S w d v → Rep S w e v
theorem CellsLe.refl (ds : List Dt) : CellsLe ds ds := ⟨rfl, fun S w i d e v h1 h2 h => by rw [h1] at h2; cases h2; exact h⟩
theorem CellsLe.cons {d e : Dt} {ds es : List Dt} (h : ∀ S w v, Rep S w d v → Rep S w e v) (h' : CellsLe ds es) : CellsLe (d :: ds) (e :: es) :=
  ⟨by simp [h'.1], fun S w i d' e' v h1 h2 hr => by
    cases i with
    | zero => simp at h1 h2; subst h1; subst h2; exact h S w v hr
    | succ i => simp at h1 h2; exact h'.2 S w i d' e' v h1 h2 hr⟩
theorem nil_rep {t : Dt} (h : t.isSl = true) (hn : t.len = 0) : ∀ S w v, Rep S w (.v (.slice none 0 0)) v → Rep S w t v := fun S w v hr => by
  rw [Rep.scalar hr]; exact .nil t h hn none 0
theorem asDocs_ok {k : Dt} {ks : List Doc} (h : asDocs k = some ks) : ∀ S w v, Rep S w k v → Rep S w (.docs ks) v := by
  unfold asDocs at h; split at h <;> simp only [Option.some.injEq, reduceCtorEq] at h
  · subst h; exact fun _ _ _ h => h
  · subst h; exact nil_rep rfl rfl
theorem asVals_ok {k : Dt} {ks : List Val} (h : asVals k = some ks) : ∀ S w v, Rep S w k v → Rep S w (.vals ks) v := by
  unfold asVals at h; split at h <;> simp only [Option.some.injEq, reduceCtorEq] at h
  · subst h; exact fun _ _ _ h => h
  · subst h; exact nil_rep rfl rfl
theorem asStrs_ok {k : Dt} {ks : List ByteArray} (h : asStrs k = some ks) : ∀ S w v, Rep S w k v → Rep S w (.strs ks) v := by
  unfold asStrs at h; split at h <;> simp only [Option.some.injEq, reduceCtorEq] at h
  · subst h; exact fun _ _ _ h => h
  · subst h; exact nil_rep rfl rfl
theorem asInts_ok {k : Dt} {ks : List Int} (h : asInts k = some ks) : ∀ S w v, Rep S w k v → Rep S w (.ints ks) v := by
  unfold asInts at h; split at h <;> simp only [Option.some.injEq, reduceCtorEq] at h
  · subst h; exact fun _ _ _ h => h
  · subst h; exact nil_rep rfl rfl
theorem asRows_ok {k : Dt} {ks : List Row} (h : asRows k = some ks) : ∀ S w v, Rep S w k v → Rep S w (.rows ks) v := by
  unfold asRows at h; split at h <;> simp only [Option.some.injEq, reduceCtorEq] at h
  · subst h; exact fun _ _ _ h => h
  · subst h; exact nil_rep rfl rfl
theorem id_rep (d : Dt) : ∀ S w v, Rep S w d v → Rep S w d v := fun _ _ _ h => h

theorem mkDoc_ok {ds : List Dt} {x : Doc} (h : mkDoc ds = some x) : CellsLe ds x.cells := by
  unfold mkDoc at h
  split at h
  · split at h
    · rename_i ks hk
      simp only [Option.some.injEq] at h; subst h
      exact .cons (id_rep _) (.cons (id_rep _) (.cons (id_rep _) (.cons (asDocs_ok hk) (.refl _))))
    · cases h
  · cases h
theorem mkVal_ok {ds : List Dt} {x : Val} (h : mkVal ds = some x) : CellsLe ds x.cells := by
  unfold mkVal at h
  split at h
  · split at h
    · rename_i qs hq
      split at h
      · rename_i ks hk
        simp only [Option.some.injEq] at h; subst h
        exact .cons (id_rep _) (.cons (id_rep _) (.cons (asStrs_ok hq) (.cons (asVals_ok hk) (.refl _))))
      · cases h
    · cases h
  · cases h
theorem mkRow_ok {ds : List Dt} {x : Row} (h : mkRow ds = some x) : CellsLe ds x.cells := by
  unfold mkRow at h
  split at h
  · simp only [Option.some.injEq] at h; subst h; exact .refl _
  · cases h
theorem mkPiece_ok {ds : List Dt} {x : Piece} (h : mkPiece ds = some x) : CellsLe ds x.cells := by
  unfold mkPiece at h
  split at h
  · split at h
    · rename_i qs hq
      split at h
      · rename_i ks hk
        simp only [Option.some.injEq] at h; subst h
        exact .cons (id_rep _) (.cons (id_rep _) (.cons (id_rep _) (.cons (asDocs_ok hq) (.cons (id_rep _) (.cons (id_rep _) (.cons (asInts_ok hk) (.refl _)))))))
      · cases h
    · cases h
  · cases h
theorem mkItem_ok {ds : List Dt} {x : Item} (h : mkItem ds = some x) : CellsLe ds x.cells := by
  unfold mkItem at h
  split at h
  · split at h
    · rename_i ks hk
      simp only [Option.some.injEq] at h; subst h
      exact .cons (id_rep _) (.cons (id_rep _) (.cons (id_rep _) (.cons (id_rep _) (.cons (asDocs_ok hk) (.refl _)))))
    · cases h
  · cases h
theorem mkStr_ok {ds : List Dt} {x : ByteArray} (h : mkStr ds = some x) : CellsLe ds [.v (.string x)] := by
  unfold mkStr at h; split at h <;> simp only [Option.some.injEq, reduceCtorEq] at h
  subst h; exact .refl _
theorem mkInt_ok {ds : List Dt} {x : Int} (h : mkInt ds = some x) : CellsLe ds [.v (.int .i64 x)] := by
  unfold mkInt at h; split at h <;> simp only [Option.some.injEq, reduceCtorEq] at h
  subst h; exact .refl _
theorem mkByte_ok {ds : List Dt} {x : Int} (h : mkByte ds = some x) : CellsLe ds [.v (.int .u8 x)] := by
  unfold mkByte at h; split at h <;> simp only [Option.some.injEq, reduceCtorEq] at h
  subst h; exact .refl _
theorem mkBool_ok {ds : List Dt} {x : Bool} (h : mkBool ds = some x) : CellsLe ds [.v (.bool x)] := by
  unfold mkBool at h; split at h <;> simp only [Option.some.injEq, reduceCtorEq] at h
  subst h; exact .refl _
theorem mkRows_ok {ds : List Dt} {x : List Row} (h : mkRows ds = some x) : CellsLe ds [.rows x] := by
  unfold mkRows at h; split at h
  · exact .cons (asRows_ok h) (.refl _)
  · cases h

/-- One more element. -/
def Dt.snoc (t : Dt) (ds : List Dt) : Option Dt :=
  match t with
  | .v _ => none
  | .docs xs => match mkDoc ds with | some x => some (.docs (xs ++ [x])) | none => none
  | .vals xs => match mkVal ds with | some x => some (.vals (xs ++ [x])) | none => none
  | .rows xs => match mkRow ds with | some x => some (.rows (xs ++ [x])) | none => none
  | .rowss xs => match mkRows ds with | some x => some (.rowss (xs ++ [x])) | none => none
  | .strs xs => match mkStr ds with | some x => some (.strs (xs ++ [x])) | none => none
  | .ints xs => match mkInt ds with | some x => some (.ints (xs ++ [x])) | none => none
  | .bytes xs => match mkByte ds with | some x => some (.bytes (xs ++ [x])) | none => none
  | .bools xs => match mkBool ds with | some x => some (.bools (xs ++ [x])) | none => none
  | .pieces xs => match mkPiece ds with | some x => some (.pieces (xs ++ [x])) | none => none
  | .items xs => match mkItem ds with | some x => some (.items (xs ++ [x])) | none => none
/-- Another element in the place of one. -/
def Dt.withEl (t : Dt) (j : Nat) (ds : List Dt) : Option Dt :=
  match t with
  | .v _ => none
  | .docs xs => match mkDoc ds with | some x => some (.docs (xs.set j x)) | none => none
  | .vals xs => match mkVal ds with | some x => some (.vals (xs.set j x)) | none => none
  | .rows xs => match mkRow ds with | some x => some (.rows (xs.set j x)) | none => none
  | .rowss xs => match mkRows ds with | some x => some (.rowss (xs.set j x)) | none => none
  | .strs xs => match mkStr ds with | some x => some (.strs (xs.set j x)) | none => none
  | .ints xs => match mkInt ds with | some x => some (.ints (xs.set j x)) | none => none
  | .bytes xs => match mkByte ds with | some x => some (.bytes (xs.set j x)) | none => none
  | .bools xs => match mkBool ds with | some x => some (.bools (xs.set j x)) | none => none
  | .pieces xs => match mkPiece ds with | some x => some (.pieces (xs.set j x)) | none => none
  | .items xs => match mkItem ds with | some x => some (.items (xs.set j x)) | none => none
def Dt.app2 (t u : Dt) : Option Dt :=
  match t, u with
  | .docs xs, .docs ys => some (.docs (xs ++ ys))
  | .vals xs, .vals ys => some (.vals (xs ++ ys))
  | .rows xs, .rows ys => some (.rows (xs ++ ys))
  | .rowss xs, .rowss ys => some (.rowss (xs ++ ys))
  | .strs xs, .strs ys => some (.strs (xs ++ ys))
  | .ints xs, .ints ys => some (.ints (xs ++ ys))
  | .bytes xs, .bytes ys => some (.bytes (xs ++ ys))
  | .bools xs, .bools ys => some (.bools (xs ++ ys))
  | .pieces xs, .pieces ys => some (.pieces (xs ++ ys))
  | .items xs, .items ys => some (.items (xs ++ ys))
  | _, _ => none
def Dt.app (t u : Dt) : Option Dt :=
  match u with
  | .v (.bool false) => if t.isSl = true then some t else none
  | u => t.app2 u
def Dt.sub (t : Dt) (lo hi : Nat) : Dt :=
  match t with
  | .v x => .v x
  | .docs xs => .docs ((xs.drop lo).take (hi - lo))
  | .vals xs => .vals ((xs.drop lo).take (hi - lo))
  | .rows xs => .rows ((xs.drop lo).take (hi - lo))
  | .rowss xs => .rowss ((xs.drop lo).take (hi - lo))
  | .strs xs => .strs ((xs.drop lo).take (hi - lo))
  | .ints xs => .ints ((xs.drop lo).take (hi - lo))
  | .bytes xs => .bytes ((xs.drop lo).take (hi - lo))
  | .bools xs => .bools ((xs.drop lo).take (hi - lo))
  | .pieces xs => .pieces ((xs.drop lo).take (hi - lo))
  | .items xs => .items ((xs.drop lo).take (hi - lo))

theorem getD_snoc {α : Type} (xs : List α) (x d : α) (j : Nat) : (xs ++ [x]).getD j d = if j < xs.length then xs.getD j d else if j = xs.length then x else d := by
  simp only [List.getD_eq_getElem?_getD]
  by_cases h : j < xs.length
  · rw [if_pos h, List.getElem?_append_left h]
  · rw [if_neg h]
    by_cases h2 : j = xs.length
    · subst h2; simp
    · rw [if_neg h2, List.getElem?_eq_none (by simp; omega)]; rfl
theorem snoc_ok {t t' : Dt} {ds : List Dt} (h : t.snoc ds = some t') :
    t'.isSl = true ∧ t.isSl = true ∧ t'.len = t.len + 1 ∧ t'.sz = t.sz ∧ (∀ j, j < t.len → t'.el j = t.el j) ∧ CellsLe ds (t'.el t.len) := by
  unfold Dt.snoc at h
  cases t <;> simp only [reduceCtorEq] at h <;> (split at h <;> simp only [Option.some.injEq, reduceCtorEq] at h) <;> subst h <;>
    (refine ⟨rfl, rfl, by simp [Dt.len], rfl, fun j hj => ?_, ?_⟩ <;> simp only [Dt.el, Dt.len, getD_snoc] at *) <;>
    first
    | (rw [if_pos hj]; done)
    | (simp only [Nat.lt_irrefl, if_false, if_true]; rename_i hk; first | exact mkDoc_ok hk | exact mkVal_ok hk | exact mkRow_ok hk | exact mkRows_ok hk | exact mkStr_ok hk | exact mkInt_ok hk | exact mkByte_ok hk | exact mkBool_ok hk | exact mkPiece_ok hk | exact mkItem_ok hk)
theorem getD_set {α : Type} (xs : List α) (x d : α) (j k : Nat) : (xs.set j x).getD k d = if k = j ∧ j < xs.length then x else xs.getD k d := by
  simp only [List.getD_eq_getElem?_getD, List.getElem?_set]
  by_cases h : j = k
  · subst h
    by_cases h2 : j < xs.length
    · simp [h2]
    · simp [h2]
  · simp [h, Ne.symm h]
theorem withEl_ok {t t' : Dt} {ds : List Dt} {j : Nat} (h : t.withEl j ds = some t') (hj : j < t.len) :
    t'.isSl = true ∧ t.isSl = true ∧ t'.len = t.len ∧ t'.sz = t.sz ∧ (∀ k, k ≠ j → t'.el k = t.el k) ∧ CellsLe ds (t'.el j) := by
  unfold Dt.withEl at h
  cases t <;> simp only [reduceCtorEq] at h <;> (split at h <;> simp only [Option.some.injEq, reduceCtorEq] at h) <;> subst h <;>
    (refine ⟨rfl, rfl, by simp [Dt.len], rfl, fun k hk => ?_, ?_⟩ <;> simp only [Dt.el, Dt.len, getD_set] at *) <;>
    first
    | (rw [if_neg (fun h => hk h.1)]; done)
    | (simp only [true_and, if_pos hj]; rename_i hk; first | exact mkDoc_ok hk | exact mkVal_ok hk | exact mkRow_ok hk | exact mkRows_ok hk | exact mkStr_ok hk | exact mkInt_ok hk | exact mkByte_ok hk | exact mkBool_ok hk | exact mkPiece_ok hk | exact mkItem_ok hk)
theorem getD_app {α : Type} (xs ys : List α) (d : α) (j : Nat) : (xs ++ ys).getD j d = if j < xs.length then xs.getD j d else ys.getD (j - xs.length) d := by
  simp only [List.getD_eq_getElem?_getD]
  by_cases h : j < xs.length
  · rw [if_pos h, List.getElem?_append_left h]
  · rw [if_neg h, List.getElem?_append_right (by omega)]
theorem app_ok {t t' u : Dt} (h : t.app u = some t') :
    t'.isSl = true ∧ t.isSl = true ∧ t'.len = t.len + u.len ∧ t'.sz = t.sz ∧ (0 < u.len → u.sz = t.sz) ∧ (∀ j, j < t.len → t'.el j = t.el j) ∧ (∀ j, j < u.len → t'.el (t.len + j) = u.el j) := by
  unfold Dt.app at h
  split at h
  · split at h
    · rename_i hs
      simp only [Option.some.injEq] at h
      subst h
      exact ⟨hs, hs, rfl, rfl, fun h => by simp [Dt.len] at h, fun _ _ => rfl, fun j h => by simp [Dt.len] at h⟩
    · cases h
  · unfold Dt.app2 at h
    split at h <;> simp only [Option.some.injEq, reduceCtorEq] at h <;> subst h <;>
      (refine ⟨rfl, rfl, by simp [Dt.len], rfl, fun _ => rfl, fun j hj => ?_, fun j hj => ?_⟩ <;> simp only [Dt.el, Dt.len, getD_app] at *) <;>
      first
      | (rw [if_pos hj]; done)
      | (simp only [Nat.not_lt.2 (Nat.le_add_right _ _), if_false, Nat.add_sub_cancel_left])
theorem getD_sub {α : Type} (xs : List α) (d : α) (lo hi j : Nat) (h : j < hi - lo) : ((xs.drop lo).take (hi - lo)).getD j d = xs.getD (lo + j) d := by
  simp only [List.getD_eq_getElem?_getD, List.getElem?_take, List.getElem?_drop]
  rw [if_pos h]
theorem sub_ok {t : Dt} {lo hi : Nat} (ht : t.isSl = true) (h2 : hi ≤ t.len) :
    (t.sub lo hi).isSl = true ∧ (t.sub lo hi).len = hi - lo ∧ (t.sub lo hi).sz = t.sz ∧ ∀ j, j < hi - lo → (t.sub lo hi).el j = t.el (lo + j) := by
  cases t <;> first
    | (simp [Dt.isSl] at ht; done)
    | (simp only [Dt.len] at h2
       refine ⟨rfl, ?_, rfl, fun j hj => ?_⟩
       · simp only [Dt.sub, Dt.len, List.length_take, List.length_drop]; omega
       · simp only [Dt.sub, Dt.el, getD_sub _ _ _ _ _ hj])
end
end Go.Proofs.YtlhfjjkoflpecaaAw

namespace Go.Proofs.YtlhfjjkoflpecaaAw
open Go.RowKit
set_option linter.unusedSimpArgs false
set_option linter.unusedVariables false

section
variable {P : Program} {F : Fr} {S : Nat → Nat → Prop} {w : World} {obs : List Ob} {V : Nat → Value} {t : TypeId} {i : TI}

/-- A new row. -/
theorem St.newRow (hst : St F.w0 F.X F.S0 obs V S w) (e : TypeId) {d : Dt} {cs : List Value} (cap : Nat) (hs : d.isSl = true) (hl : cs.length = cap * d.sz) (hcap : d.len ≤ cap) (hm : cap ≤ maxLen)
    (h1 : ∀ u ∈ cs.take (d.len * d.sz), u.oneCell' = true) (hr : RepRow S w d (cs.take (d.len * d.sz))) :
    ∃ V', St F.w0 F.X F.S0 (obs ++ [.row e d 0]) V' S (w.alloc (.cells cs.toArray e)) ∧ Mov S w obs V S (w.alloc (.cells cs.toArray e)) (obs ++ [.row e d 0]) V' ∧
      RepA S (w.alloc (.cells cs.toArray e)) (obs ++ [.row e d 0]) V' (.row obs.length 0) (.slice (some ⟨w.heap.size, 0, none⟩) d.len cap) := by
  have hb : Below w.heap.size w (w.alloc (.cells cs.toArray e)) := (Below.refl _ _).alloc (Nat.le_refl _) _
  have hw : ∀ b o, S b o → (w.alloc (.cells cs.toArray e)).cell? ⟨b, o, none⟩ = w.cell? ⟨b, o, none⟩ := fun b o h => cell_block (hb.block b (hst.sheap b o h))
  have mov : Mov S w obs V S (w.alloc (.cells cs.toArray e)) (obs ++ [.row e d 0]) (upd V obs.length (.slice (some ⟨w.heap.size, 0, none⟩) d.len cap)) :=
    fun y u h => RepA.mono (fun _ _ h => h) hw (Evo.push _ _ _ _) y u h
  refine ⟨upd V obs.length (.slice (some ⟨w.heap.size, 0, none⟩) d.len cap), (hst.grow hb).push _ _ ?_ ?_, mov, ?_⟩
  · refine ⟨hs, cs.take (d.len * d.sz), ⟨?_, h1, ?_⟩, hr.mono (fun _ _ h => h) hw⟩
    · rw [List.length_take, hl]; exact Nat.min_eq_left (Nat.mul_le_mul_right _ hcap)
    · by_cases hz : cap = 0
      · exact .inl ⟨_, by rw [upd_eq, hz, show d.len = 0 by omega], by omega⟩
      · exact .inr ⟨w.heap.size, cap, cs.toArray, upd_eq, heap_alloc_new w _, hcap, hm, by omega, by simpa using hl, by simp⟩
  · intro g _ hg
    simp only [ownB] at hg
    split at hg
    · cases hg
    · simp only [Option.some.injEq] at hg
      subst hg
      refine ⟨fun j hj => ?_, .inl hst.keep.size, fun o ob' ho hown hV => ?_⟩
      · have := hst.sheap _ _ hj; omega
      · have := (hst.ob o ob' ho).lt hown hV; omega
  · refine ⟨by simp, fun k0 h0 => ?_⟩
    simp [verOf, Ob.ver] at h0
    subst h0
    exact ⟨Nat.le_refl _, fun _ => upd_eq.symm⟩

/-- A row without room. -/
theorem St.noRow (hst : St F.w0 F.X F.S0 obs V S w) (e : TypeId) {d : Dt} (hs : d.isSl = true) (hn : d.len = 0) (A : Option Addr) :
    ∃ V', St F.w0 F.X F.S0 (obs ++ [.row e d 0]) V' S w ∧ Mov S w obs V S w (obs ++ [.row e d 0]) V' ∧ RepA S w (obs ++ [.row e d 0]) V' (.row obs.length 0) (.slice A 0 0) ∧ V' obs.length = .slice A 0 0 := by
  refine ⟨upd V obs.length (.slice A 0 0), hst.push _ _ ?_ ?_, fun y u h => RepA.mono (fun _ _ h => h) (fun _ _ _ => rfl) (Evo.push _ _ _ _) y u h, ?_, upd_eq⟩
  · exact ⟨hs, [], ⟨by rw [hn]; simp, by simp, .inl ⟨A, upd_eq, hn⟩⟩, fun j i d' hj => by omega⟩
  · intro g _ hg
    cases A <;> simp [ownB] at hg
  · refine ⟨by simp, fun k0 h0 => ?_⟩
    simp [verOf, Ob.ver] at h0
    subst h0
    exact ⟨Nat.le_refl _, fun _ => upd_eq.symm⟩

/-! ### Slicing -/
def natA : Option AV → Option (Option Int)
  | none => some none
  | some (.d (.v (.int _ n))) => some (some n)
  | _ => none
def sliceA (i : TI) (obs : List Ob) (x : AV) (lo hi : Option AV) : Option (Prop × AV × List Ob) :=
  if i.kind = 3 then
    match natA lo, natA hi with
    | some l, some h =>
      match x with
      | .d t => if t.isSl = true then some (0 ≤ l.getD 0 ∧ l.getD 0 ≤ h.getD t.len ∧ h.getD t.len ≤ t.len, .d (t.sub (l.getD 0).toNat (h.getD t.len).toNat), obs) else none
      | .row o k =>
        match obs[o]? with
        | some (.row e t k') =>
          if k = k' then
            match l with
            | none => some (0 ≤ h.getD t.len ∧ h.getD t.len ≤ t.len, .row o (k + 1), obs.set o (.row e (t.sub 0 (h.getD t.len).toNat) (k + 1)))
            | some l => some (0 ≤ l ∧ l ≤ h.getD t.len ∧ h.getD t.len ≤ t.len, .d (t.sub l.toNat (h.getD t.len).toNat), obs.set o (.set t k))
          else none
        | some (.set t k') => if k = k' then some (0 ≤ l.getD 0 ∧ l.getD 0 ≤ h.getD t.len ∧ h.getD t.len ≤ t.len, .d (t.sub (l.getD 0).toNat (h.getD t.len).toNat), obs) else none
        | _ => none
      | _ => none
    | _, _ => none
  else none

theorem natA_ok {lo : Option AV} {lv : Option Value} {l : Option Int} (h : natA lo = some l) (hl : RepO S w obs V lo lv) : (lv = none ∧ l = none) ∨ ∃ k n, lv = some (.int k n) ∧ l = some n := by
  unfold natA at h
  split at h <;> simp only [Option.some.injEq, reduceCtorEq] at h
  · subst h; exact .inl ⟨hl, rfl⟩
  · subst h
    obtain ⟨u, rfl, hu⟩ := hl
    rw [Rep.scalar hu]
    exact .inr ⟨_, _, rfl, rfl⟩
theorem run_sliceAt {e : TypeId} {A : Option Addr} {n c : Nat} {sz : Nat} (ht : P.underlying t = some (.slice e)) (hs : (sizeOf e).run P w = .ok sz w) (hc : n ≤ c) {lv hv : Option Value} {l h : Option Int}
    (hl : (lv = none ∧ l = none) ∨ ∃ k n, lv = some (.int k n) ∧ l = some n) (hh : (hv = none ∧ h = none) ∨ ∃ k n, hv = some (.int k n) ∧ h = some n)
    (h0 : 0 ≤ l.getD 0) (h1 : l.getD 0 ≤ h.getD n) (h2 : h.getD n ≤ n) :
    (Instr.sliceAt t (.slice A n c) lv hv none).run P w = .ok (.slice (if c = (l.getD 0).toNat then A else A.map (·.add ((l.getD 0).toNat * sz))) ((h.getD n).toNat - (l.getD 0).toNat) (c - (l.getD 0).toNat)) w := by
  rcases hl with ⟨rfl, rfl⟩ | ⟨k, l, rfl, rfl⟩ <;> rcases hh with ⟨rfl, rfl⟩ | ⟨k', h, rfl, rfl⟩
  · simp [Instr.sliceAt, Instr.slice, Instr.sliceBounds, Instr.sliceBound, asIntOf, run_underlying ht, hs, go_sem]
  · simp only [Option.getD_none, Option.getD_some] at *
    have e1 : h ≤ (c : Int) := by omega
    simp [Instr.sliceAt, Instr.slice, Instr.sliceBounds, Instr.sliceBound, asIntOf, run_underlying ht, hs, e1, h1, go_sem]
  · simp only [Option.getD_none, Option.getD_some] at *
    simp [Instr.sliceAt, Instr.slice, Instr.sliceBounds, Instr.sliceBound, asIntOf, run_underlying ht, hs, h0, h1, go_sem]
  · simp only [Option.getD_some] at *
    have e1 : h ≤ (c : Int) := by omega
    have e2 : 0 ≤ h := by omega
    have e3 : l ≤ (h.toNat : Int) := by omega
    simp [Instr.sliceAt, Instr.slice, Instr.sliceBounds, Instr.sliceBound, asIntOf, run_underlying ht, hs, h0, e1, e2, e3, go_sem]
    intro hh; omega

theorem rep_sub {d : Dt} (hd : d.isSl = true) {A : Option Addr} {c sz lo hi : Nat} (hz : d.sz = sz) (hr : Rep S w d (.slice A d.len c)) (h1 : lo ≤ hi) (h2 : hi ≤ d.len) :
    Rep S w (d.sub lo hi) (.slice (if c = lo then A else A.map (·.add (lo * sz))) (hi - lo) (c - lo)) := by
  obtain ⟨q1, q2, q3, q4⟩ := sub_ok (lo := lo) hd h2
  by_cases hn : hi - lo = 0
  · rw [hn]; exact .nil _ q1 (by omega) _ _
  · obtain ⟨hm, A', c', hv, hc, hcell⟩ := Rep.slice hd hr
    simp only [Value.slice.injEq, true_and] at hv
    obtain ⟨rfl, rfl⟩ := hv
    obtain ⟨b, o, rfl, hce⟩ := hcell (by omega)
    rw [if_neg (by omega)]
    have hex : ∀ j i d', j < (d.sub lo hi).len → ((d.sub lo hi).el j)[i]? = some d' → ∃ u, w.cell? ⟨b, (o + lo * sz) + (j * (d.sub lo hi).sz + i), none⟩ = some u ∧ S b ((o + lo * sz) + (j * (d.sub lo hi).sz + i)) ∧ Rep S w d' u := by
      intro j i d' hj hd'
      rw [q4 j (by omega)] at hd'
      obtain ⟨u, p1, p2, p3⟩ := hce (lo + j) i d' (by omega) hd'
      have e : o + ((lo + j) * d.sz + i) = (o + lo * sz) + (j * (d.sub lo hi).sz + i) := by
        rw [q3, ← hz, Nat.add_mul]; omega
      rw [e] at p1 p2
      exact ⟨u, p1, p2, p3⟩
    have := Rep.sl (S := S) (w := w) (d.sub lo hi) q1 b (o + lo * sz) (c - lo) (fun j i => (w.cell? ⟨b, (o + lo * sz) + (j * (d.sub lo hi).sz + i), none⟩).getD undef) (by omega) (by omega)
      (fun j i d' hj hd' => by obtain ⟨u, p1, p2, p3⟩ := hex j i d' hj hd'; rw [p1]; rfl)
      (fun j i d' hj hd' => by obtain ⟨u, p1, p2, p3⟩ := hex j i d' hj hd'; exact p2)
      (fun j i d' hj hd' => by obtain ⟨u, p1, p2, p3⟩ := hex j i d' hj hd'; rw [p1]; exact p3)
    rw [q2] at this
    simpa [add_at] using this

theorem sliceA_ok (hst : St F.w0 F.X F.S0 obs V S w) (hT : TOk P t i) {sz : Nat} (hs : ∀ w, (sizeOf i.elem).run P w = .ok sz w) {x : AV} {lo hi : Option AV} {v : Value} {lv hv : Option Value}
    (hsz : ∀ d, slOf obs x = some d → d.isSl = true → d.sz = sz) (hx : RepA S w obs V x v) (hl : RepO S w obs V lo lv) (hh : RepO S w obs V hi hv) {p : Prop} {r : AV} {obs' : List Ob}
    (h : sliceA i obs x lo hi = some (p, r, obs')) (hp : p) : Out P F obs V S w (Instr.sliceAt t v lv hv none) r obs' := by
  unfold sliceA at h
  split at h
  · rename_i hk
    obtain ⟨ht, _⟩ := hT.slct hk
    split at h
    · rename_i l h' hla hha
      have nl := natA_ok hla hl
      have nh := natA_ok hha hh
      split at h
      · rename_i d
        split at h
        · rename_i hd
          simp only [Option.some.injEq, Prod.mk.injEq] at h
          obtain ⟨rfl, rfl, rfl⟩ := h
          have hz : d.sz = sz := hsz d (by cases d <;> first | rfl | simp [Dt.isSl] at hd) hd
          obtain ⟨hm, A, c', rfl, hc, hcell⟩ := Rep.slice hd hx
          exact .pure hst ⟨_, run_sliceAt ht (hs w) hc nl nh hp.1 hp.2.1 hp.2.2, rep_sub hd hz hx (by omega) (by omega)⟩
        · cases h
      · rename_i o k
        split at h
        · rename_i e d k' ho
          split at h
          · rename_i hkk
            subst hkk
            have hver : verOf obs o = some k := by simp [verOf, ho, Ob.ver]
            have hdt : dtAt obs o = d := by simp [dtAt, ho, Ob.dt]
            have hvo := row_now hver hx
            obtain ⟨h1, xs, hrow, h5⟩ := hst.ob o _ ho
            have hz : d.sz = sz := hsz _ (by simp [slOf, hver, hdt]) h1
            obtain ⟨A, c, hV, hc, hm, hcell⟩ := row_slice hst hver
            rw [hdt] at hV hc hm hcell
            split at h
            · rename_i hla
              simp only [Option.some.injEq, Prod.mk.injEq] at h
              obtain ⟨rfl, rfl, rfl⟩ := h
              have hrun := run_sliceAt (A := A) ht (hs w) hc nl nh (by simp) (by simpa using hp.1) hp.2
              obtain ⟨q1, q2, q3, q4⟩ := sub_ok (lo := 0) h1 (show (h'.getD d.len).toNat ≤ d.len by omega)
              simp only [Option.getD_none, Int.toNat_zero, Nat.zero_mul, Nat.sub_zero] at hrun q2
              have hA : (if c = 0 then A else A.map (·.add 0)) = A := by
                split
                · rfl
                · cases A <;> rfl
              rw [hA] at hrun
              have he : Evo obs V (obs.set o (.row e (d.sub 0 (h'.getD d.len).toNat) (k + 1))) (upd V o (.slice A (h'.getD d.len).toNat c)) :=
                Evo.set ho (fun a ha => by rw [hV] at ha; cases ha) (fun k1 hk1 => by
                  simp only [Ob.ver, Option.some.injEq] at hk1
                  subst hk1
                  exact ⟨k, rfl, by omega, fun e => by omega⟩)
              have hown : ∀ g, ownB (.slice A (h'.getD d.len).toNat c) = some g → ownB (V o) = some g := fun g hg => by
                rw [hV]
                cases A with
                | none => simp [ownB] at hg
                | some a => simpa [ownB] using hg
              refine ⟨.slice A (h'.getD d.len).toNat c, w, upd V o (.slice A (h'.getD d.len).toNat c), S, by rw [hvo, hV]; exact hrun, hst.turn ho rfl rfl rfl rfl (Nat.le_refl _) (fun _ _ _ => rfl) (fun _ _ h => h) (fun _ _ h => .inl h) he ?_
                (fun g _ hg => .inl (hown g hg)), fun y u hy => RepA.mono (fun _ _ h => h) (fun _ _ _ => rfl) he y u hy, ?_⟩
              · refine ⟨q1, xs.take ((d.sub 0 (h'.getD d.len).toNat).len * (d.sub 0 (h'.getD d.len).toNat).sz), ⟨?_, fun u hu => hrow.2.1 u (List.mem_of_mem_take hu), ?_⟩, ?_⟩
                · rw [List.length_take, hrow.1, q2, q3]; exact Nat.min_eq_left (Nat.mul_le_mul_right _ (by omega))
                · rw [upd_eq, q2]
                  rcases hrow.2.2 with ⟨A', p1, p2⟩ | ⟨g, cap, cur, p1, p2, p3, p4, p5, p6, p7⟩
                  · rw [hV] at p1
                    simp only [Value.slice.injEq] at p1
                    exact .inl ⟨A', by rw [p1.1, p1.2.2]; congr 1; omega, by omega⟩
                  · rw [hV] at p1
                    simp only [Value.slice.injEq, true_and] at p1
                    refine .inr ⟨g, cap, cur, by rw [p1.1, p1.2], p2, by omega, p4, p5, by rw [q3]; exact p6, ?_⟩
                    rw [← p7, List.take_take, q3]
                    congr 1
                    exact (Nat.min_eq_left (Nat.mul_le_mul_right _ (by omega))).symm
                · intro j i' d' hj hd'
                  rw [q4 j (by omega), Nat.zero_add] at hd'
                  obtain ⟨u, hu, hru⟩ := h5 j i' d' (by omega) hd'
                  refine ⟨u, ?_, hru⟩
                  have hi' : i' < d.sz := by rw [← Dt.el_len d j h1]; exact (List.getElem?_eq_some_iff.1 hd').1
                  rw [List.getElem?_take, q3, if_pos]
                  · exact hu
                  · calc j * d.sz + i' < j * d.sz + d.sz := by omega
                      _ = (j + 1) * d.sz := by rw [Nat.add_mul]; omega
                      _ ≤ _ := Nat.mul_le_mul_right _ hj
              · have hl : o < obs.length := (List.getElem?_eq_some_iff.1 ho).1
                refine ⟨by simpa using hl, fun k0 h0 => ?_⟩
                have : k0 = k + 1 := by simp [verOf, hl, Ob.ver] at h0; omega
                subst this
                exact ⟨Nat.le_refl _, fun _ => upd_eq.symm⟩
            · rename_i l
              simp only [Option.some.injEq, Prod.mk.injEq] at h
              obtain ⟨rfl, rfl, rfl⟩ := h
              obtain ⟨V', S', a1, a2, a3, a4⟩ := hst.settle ho
              have hrun := run_sliceAt (A := A) ht (hs w) hc nl nh (by simpa using hp.1) (by simpa using hp.2.1) hp.2.2
              simp only [Option.getD_some] at hrun
              rw [hV] at a3
              exact ⟨_, w, V', S', by rw [hvo, hV]; exact hrun, a1, a2, rep_sub h1 hz a3 (by omega) (by omega)⟩
          · cases h
        · rename_i d k' ho
          split at h
          · rename_i hkk
            subst hkk
            have hver : verOf obs o = some k := by simp [verOf, ho, Ob.ver]
            have hdt : dtAt obs o = d := by simp [dtAt, ho, Ob.dt]
            have hvo := row_now hver hx
            obtain ⟨h1, h2⟩ := hst.ob o _ ho
            have hz : d.sz = sz := hsz _ (by simp [slOf, hver, hdt]) h1
            simp only [Option.some.injEq, Prod.mk.injEq] at h
            obtain ⟨rfl, rfl, rfl⟩ := h
            obtain ⟨hm, A, c', hv, hc, hcell⟩ := Rep.slice h1 h2
            rw [hv] at h2
            rw [hvo, hv]
            exact .pure hst ⟨_, run_sliceAt ht (hs w) hc nl nh hp.1 hp.2.1 hp.2.2, rep_sub h1 hz h2 (by omega) (by omega)⟩
          · cases h
        · cases h
      · cases h
    · cases h
  · cases h
end
end Go.Proofs.YtlhfjjkoflpecaaAw

namespace Go.Proofs.YtlhfjjkoflpecaaAw
open Go.RowKit
set_option linter.unusedSimpArgs false
set_option linter.unusedVariables false

section
variable {P : Program} {F : Fr} {S : Nat → Nat → Prop} {w : World} {obs : List Ob} {V : Nat → Value} {t : TypeId} {i : TI}

/-! ### A list written out: []T{x, y} -/
theorem RepRow.snoc {d d' : Dt} {ds : List Dt} {xs cs : List Value} {V1 : Nat → Value} {obs1 : List Ob} (h : d.snoc ds = some d') (hl : xs.length = d.len * d.sz) (hr : RepRow S w d xs) (hc : RepAs S w obs1 V1 (ds.map .d) cs) :
    RepRow S w d' (xs ++ cs) ∧ (xs ++ cs).length = d'.len * d'.sz := by
  obtain ⟨q1, q2, q3, q4, q5, q6⟩ := snoc_ok h
  have hcl := RepAs.length hc
  have hdl := Dt.el_len d' d.len q1
  rw [List.length_map] at hcl
  refine ⟨fun j e dd hj hd => ?_, ?_⟩
  · by_cases hlt : j < d.len
    · rw [q5 j hlt] at hd
      obtain ⟨u, hu, hru⟩ := hr j e dd hlt hd
      refine ⟨u, ?_, hru⟩
      rw [q4, List.getElem?_append_left (List.getElem?_eq_some_iff.1 hu).1]
      exact hu
    · have hje : j = d.len := by omega
      subst hje
      have hlen : e < ds.length := by rw [q6.1]; exact (List.getElem?_eq_some_iff.1 hd).1
      obtain ⟨u, hu, hru⟩ := RepAs.get hc e (.d ds[e]) (by simp [hlen])
      refine ⟨u, ?_, q6.2 S w e _ _ u (List.getElem?_eq_getElem hlen) hd hru⟩
      rw [q4, List.getElem?_append_right (by omega), hl, Nat.add_sub_cancel_left]
      exact hu
  · rw [List.length_append, hl, hcl, q6.1, hdl, q3, q4, Nat.add_mul]; omega

def partsA (obs : List Ob) (d : Dt) : List AV → Option (Dt × List Ob)
  | [] => some (d, obs)
  | x :: xs =>
    match cellsOf x with
    | some cs =>
      if cs.all (leafB obs) = true then
        match freezeL obs cs with
        | some (ds, obs') =>
          match d.snoc ds with
          | some d' => partsA obs' d' xs
          | none => none
        | none => none
      else none
    | none => none
theorem partsA_ok : ∀ (xs : List AV) {obs : List Ob} {V : Nat → Value} {S : Nat → Nat → Prop} {d : Dt} (vs acc : List Value) (hst : St F.w0 F.X F.S0 obs V S w) (hx : RepAs S w obs V xs vs)
    (hs : d.isSl = true) (hal : acc.length = d.len * d.sz) (ha1 : ∀ u ∈ acc, u.oneCell' = true) (har : RepRow S w d acc) {d' : Dt} {obs' : List Ob} (h : partsA obs d xs = some (d', obs')),
    ∃ V' S', St F.w0 F.X F.S0 obs' V' S' w ∧ Mov S w obs V S' w obs' V' ∧ RepRow S' w d' (acc ++ vs.flatMap fun v => v.cells.toList) ∧ (acc ++ vs.flatMap fun v => v.cells.toList).length = d'.len * d'.sz ∧
      (∀ u ∈ acc ++ vs.flatMap fun v => v.cells.toList, u.oneCell' = true) ∧ d'.isSl = true ∧ d'.sz = d.sz ∧ d'.len = d.len + xs.length ∧ ∀ v ∈ vs, v.cells.size = d.sz
  | [], obs, V, S, d, vs, acc, hst, hx, hs, hal, ha1, har, d', obs', h => by
      simp only [partsA, Option.some.injEq, Prod.mk.injEq] at h
      obtain ⟨rfl, rfl⟩ := h
      obtain rfl : vs = [] := hx
      rw [List.flatMap_nil, List.append_nil]
      exact ⟨V, S, hst, Mov.refl _ _ _ _, har, hal, ha1, hs, rfl, rfl, fun v hv => by cases hv⟩
  | x :: xs, obs, V, S, d, vs, acc, hst, hx, hs, hal, ha1, har, d', obs', h => by
      obtain ⟨v, r, rfl, h2, h3⟩ := hx
      unfold partsA at h
      split at h
      · rename_i cs hcs
        split at h
        · rename_i hall
          split at h
          · rename_i ds obs1 hfr
            split at h
            · rename_i d1 hsn
              have hr := cellsOf_ok hcs hall hst h2
              have h1 := leaves_one hst hall hr
              obtain ⟨V1, S1, a, b, c⟩ := freezeL_ok cs _ hst hr hfr
              have har1 : RepRow S1 w d acc := by
                intro j e dd hj hd
                obtain ⟨u, hu, hru⟩ := har j e dd hj hd
                exact ⟨u, hu, b (.d dd) u hru⟩
              obtain ⟨p1, p2⟩ := RepRow.snoc hsn hal har1 c
              obtain ⟨q1, q2, q3, q4, q5, q6⟩ := snoc_ok hsn
              have hvl : v.cells.size = d.sz := by
                have e1 := RepAs.length c
                have e2 := Dt.el_len d1 d.len q1
                rw [List.length_map, q6.1, e2, q4] at e1
                simpa using e1
              obtain ⟨V2, S2, a2, b2, c2, c3, c4, c5, c6, c7, c8⟩ := partsA_ok xs r (acc ++ v.cells.toList) a (b.all h3) q1 p2 (fun u hu => (List.mem_append.1 hu).elim (ha1 u) (h1 u)) p1 h
              simp only [List.flatMap_cons, ← List.append_assoc]
              refine ⟨V2, S2, a2, b.trans b2, c2, c3, c4, c5, by rw [c6, q4], by rw [c7, q3, List.length_cons]; omega, fun u hu => ?_⟩
              rcases List.mem_cons.1 hu with rfl | hu
              · exact hvl
              · rw [← q4]; exact c8 u hu
            · cases h
          · cases h
        · cases h
      · cases h

/-- The parts stand in order. -/
def inOrder : Nat → List (Nat × Operand) → Bool
  | _, [] => true
  | k, (j, _) :: r => j == k && inOrder (k + 1) r
def buildSliceA (i : TI) (esz : Nat) (obs : List Ob) (tmps : List AV) (len : Nat) (parts : List (Nat × Operand)) : Option (Prop × AV × List Ob) :=
  if i.kind = 3 ∧ inOrder 0 parts = true ∧ parts.length = len ∧ len * esz ≤ 16777216 then
    match partsA obs i.nil (parts.map fun p => opv tmps p.2) with
    | some (d, obs') => some (True, .row obs'.length 0, obs' ++ [.row i.elem d 0])
    | none => none
  else none

theorem inOrder_zip (f : Operand → Value) : ∀ (parts : List (Nat × Operand)) (k : Nat), inOrder k parts = true → parts.map (fun p => (p.1, f p.2)) = ((parts.map fun p => f p.2).zipIdx k).map fun x => (x.2, x.1)
  | [], _, _ => rfl
  | (j, x) :: r, k, h => by
      simp only [inOrder, Bool.and_eq_true, beq_iff_eq] at h
      simp only [List.map_cons, List.zipIdx_cons, h.1, inOrder_zip f r (k + 1) h.2]

theorem buildSliceA_ok (hst : St F.w0 F.X F.S0 obs V S w) (hT : TOk P t i) {ie : TI} (hE : TOk P i.elem ie) (hsz : i.nil.sz = ie.size) {a : Act} {tmps : List AV} {vs : List Value} (ha : a.tmps = vs.toArray) (htm : RepAs S w obs V tmps vs)
    {len : Nat} {parts : Array (Nat × Operand)} {p : Prop} {r : AV} {obs' : List Ob} (h : buildSliceA i ie.size obs tmps len parts.toList = some (p, r, obs')) :
    Out P F obs V S w (Instr.buildSlice t len (parts.map fun (i, x) => (i, a.eval x))) r obs' := by
  unfold buildSliceA at h
  split at h
  · rename_i hh
    obtain ⟨hk, hord, hlen, hbig⟩ := hh
    obtain ⟨ht, hn1, hn2⟩ := hT.slct hk
    split at h
    · rename_i d obs1 hpa
      simp only [Option.some.injEq, Prod.mk.injEq] at h
      obtain ⟨-, rfl, rfl⟩ := h
      have hops : RepAs S w obs V (parts.toList.map fun p => opv tmps p.2) (parts.toList.map fun p => a.eval p.2) := by
        refine RepAs.of_get (by simp) (fun j x v hx hv => ?_)
        rw [List.getElem?_map] at hx hv
        cases hp : parts.toList[j]? with
        | none => rw [hp] at hx; cases hx
        | some q =>
          rw [hp] at hx hv
          simp only [Option.map_some, Option.some.injEq] at hx hv
          subst hx; subst hv
          exact opv_ok ha htm q.2
      obtain ⟨V1, S1, a1, b1, c1, c2, c3, c4, c5, c6, c7⟩ := partsA_ok _ _ [] hst hops hn1 (by rw [hn2]; simp) (by simp) (fun j e dd hj => by omega) hpa
      simp only [List.nil_append] at c1 c2 c3
      have hdl : d.len = len := by rw [c6, hn2, List.length_map, hlen]; omega
      have hdz : d.sz = ie.size := by rw [c5, hsz]
      have hpos : 0 < ie.size := by rw [← hsz]; exact Dt.sz_pos _
      obtain ⟨q, _, hq1, hq2, hq3, hq4⟩ := hE.run_info (w := w)
      have hzs : ie.zval.cells.size = ie.zero.length := by
        have := RepAs.length (hE.zrep S w obs V)
        simpa using this
      have hrun : (Instr.buildSlice t len (parts.map fun (i, x) => (i, a.eval x))).run P w =
          .ok (.slice (some ⟨w.heap.size, 0, none⟩) len len) (w.alloc (.cells ((parts.toList.map fun p => a.eval p.2).flatMap fun v => v.cells.toList).toArray i.elem)) := by
        have hpl : (parts.map fun (i, x) => (i, a.eval x)).toList = ((parts.toList.map fun p => a.eval p.2).zipIdx 0).map fun x => (x.2, x.1) := by
          rw [Array.toList_map]; exact inOrder_zip a.eval _ 0 hord
        by_cases hl0 : len = 0
        · have hp0 : parts.toList = [] := List.eq_nil_of_length_eq_zero (by omega)
          have hpz : parts = #[] := by simpa using hp0
          subst hpz; subst hl0
          simp [Instr.buildSlice, run_underlying ht, sizeOf, typeInfo, hq1, newRow, Instr.fill, Array.range_zero']
        · refine run_buildSlice w t i.elem len _ _ q ie.zval ht hq1 hq2 ?_ ?_ ?_
          · rw [hq3]; show ¬ len * ie.size > 16777216; omega
          · rw [hq3]; exact Nat.mul_ne_zero hl0 (by omega)
          · rw [hq3, hpl]
            exact Go.Great.fill_whole hpos _ _ (fun v hv => by rw [c7 v hv, hsz]) (by simp [hlen])
      obtain ⟨V2, a2, b2, c8⟩ := a1.newRow i.elem (d := d) (cs := (parts.toList.map fun p => a.eval p.2).flatMap fun v => v.cells.toList) len c4 (by rw [c2, hdl]) (by omega) (by
          have : len ≤ 16777216 := Nat.le_trans (Nat.le_mul_of_pos_right _ hpos) hbig
          unfold maxLen; omega)
        (fun u hu => c3 u (List.mem_of_mem_take hu)) (by rw [← c2, List.take_length]; exact c1)
      rw [hdl] at c8
      exact ⟨_, _, V2, S1, hrun, a2, b1.trans b2, c8⟩
    · cases h
  · cases h

/-! ### append -/
theorem run_append_zero {ty e : TypeId} {ie : TypeInfo} (ht : P.underlying t = some (.slice e)) (hi : P.info? e = some ie) (A B : Option Addr) (n c c' : Nat) (hc : n ≤ c) :
    (Builtin.append_ #[t, t] ty #[.slice A n c, .slice B 0 c']).run P w = .ok (.slice A n c) w := by
  cases A <;> cases B <;> simp [Builtin.append_, run_underlying ht, sizeOf, typeInfo, hi, Builtin.lenOf, Builtin.firstCells, loadCells, loadCellsFrom, hc, storeCells]

theorem run_append_row {ty e : TypeId} {ie : TypeInfo} {z : Value} (ht : P.underlying t = some (.slice e)) (hi : P.info? e = some ie) (hz : ie.zero = some z) (hzs : z.cells.size = ie.size) (hsz : 0 < ie.size)
    {d : Dt} {v : Value} {xs : List Value} (hs : d.sz = ie.size) (hrow : RowAt w e d v xs) (ad : Addr) (m c : Nat) (hm0 : 0 < m) (news : List Value) (hl : news.length = m * ie.size)
    (hnews : ∀ (j : Nat) (u : Value), news[j]? = some u → w.cell? (ad.add j) = some u) (h1 : ∀ u ∈ news, u.oneCell' = true) (h63 : d.len + m ≤ maxLen) (hbytes : (d.len + m) * ie.bytes ≤ 140737488355328) :
    ∃ v' w', (Builtin.append_ #[t, t] ty #[v, .slice (some ad) m c]).run P w = .ok v' w' ∧ w.grownBy w' (ownB v) ∧ (∀ g, ownB v' = some g → ownB v = some g ∨ w.heap.size ≤ g) ∧
      ∀ d' : Dt, d'.len = d.len + m → d'.sz = d.sz → RowAt w' e d' v' (xs ++ news) := by
  obtain ⟨hxl, hx1, hx⟩ := hrow
  rcases hx with ⟨A, rfl, hn⟩ | ⟨g, cap, cur, rfl, hg, hnc, hcm, hpos, hcs, htake⟩
  · have hx0 : xs = [] := List.eq_nil_of_length_eq_zero (by rw [hxl, hn]; simp)
    subst hx0
    have hsmall : m ≤ 9223372036854775807 := by rw [hn] at h63; unfold maxLen at h63; omega
    rw [hn, Nat.zero_add] at hbytes h63
    have hr : ∃ cap2, m ≤ cap2 ∧ cap2 ≤ maxLen ∧ (Builtin.append_ #[t, t] ty #[.slice A 0 0, .slice (some ad) m c]).run P w =
        .ok (.slice (some ⟨w.heap.size, 0, none⟩) m cap2) (w.drew.alloc (.cells (news.toArray ++ Builtin.zeroCells z.cells (cap2 - m)) e)) := by
      refine ⟨grownCap w m 0 e, grownCap_ge w m 0 e, grownCap_le_maxLen w m 0 e h63, ?_⟩
      cases A with
      | none => exact run_append_nil (P := P) w t ty e ie z ht hi hz ad m c news hl hnews hm0 (by omega) (by omega)
      | some b =>
        have := run_append_grow (P := P) w t ty e ie z ht hi hz b 0 0 [] (by simp) (fun j u h => by simp at h) ad m c news hl hnews (by omega) (by omega) (growslice_fits (by omega) (by simpa using hbytes))
        simpa using this
    obtain ⟨cap2, hge, hle, hr⟩ := hr
    refine ⟨_, _, hr, ⟨rfl, rfl, rfl, by simp, fun k hk _ => Below.heap_alloc w.drew _ k hk⟩, fun g hg => .inr ?_, fun d' hd' hz' => ?_⟩
    · simp only [ownB] at hg
      split at hg
      · cases hg
      · simp only [Option.some.injEq] at hg; omega
    · rw [hn, Nat.zero_add] at hd'
      refine ⟨by rw [List.nil_append, hl, hd', hz', hs], by simpa using h1, .inr ⟨w.heap.size, cap2, _, by rw [hd'], heap_alloc_new w.drew _, by omega, hle, by omega, ?_, ?_⟩⟩
      · simp only [Array.size_append, List.size_toArray, size_zeroCells, hzs, hl, ← Nat.add_mul, hz', hs]
        congr 1; omega
      · simp only [Array.toList_append, hd', hz', hs, ← hl, List.nil_append]
        exact List.take_left
  · have hown : w.ownsRow 0 e ie.size (.slice (some ⟨g, 0, none⟩) d.len cap) d.len xs := ⟨by rw [hxl, hs], .inr ⟨g, cap, cur, rfl, Nat.zero_le _, hg, hnc, hcm, by rw [← hs]; exact hcs, by rw [← hs]; exact htake⟩⟩
    obtain ⟨v', w', hr, h2, h3, h4⟩ := run_append_own (P := P) w 0 t ty e ie z ie.size ie.bytes ht hi hz rfl rfl hzs hsz _ d.len xs hown ad m c news hl hnews h1 h63 hbytes (Nat.zero_le _)
    have hob : Value.ownBlock (.slice (some ⟨g, 0, none⟩) d.len cap) = ownB (.slice (some ⟨g, 0, none⟩) d.len cap) := by simp [Value.ownBlock, ownB]; omega
    rw [hob] at h3
    have hcapp : ∀ g' cap' n', v' = .slice (some g') n' cap' → n' ≤ cap' → 0 < cap' := by
      intro g' cap' n' e hle
      rcases h2.2 with ⟨q1, q2⟩ | ⟨g2, cap2, cur2, q1, q2, q3, q4, q5, q6, q7⟩
      · omega
      · rw [e] at q1; simp only [Value.slice.injEq] at q1; omega
    refine ⟨v', w', hr, h3, fun g' hg' => ?_, fun d' hd' hz' => ?_⟩
    · rcases Nat.lt_or_ge g' w.heap.size with hlt | hge
      · left
        by_cases hsame : (d.len + m) ≤ cap
        · have hfit : d.len * ie.size + news.length ≤ cur.size := by rw [hl, hcs, hs, ← Nat.add_mul]; exact Nat.mul_le_mul_right _ hsame
          have hr' := run_append_room (P := P) w t ty e ie ht hi g d.len cap cur hg ad m c news hl hnews h1 hsame hfit
          rw [hr'] at hr
          simp only [Result.ok.injEq] at hr
          rw [← hr.1] at hg'
          simpa [ownB] using hg'
        · have holds : ∀ (j : Nat) (u : Value), xs[j]? = some u → w.cell? ((⟨g, 0, none⟩ : Addr).add j) = some u := hown.cells (g := g) rfl
          have hr' := run_append_grow (P := P) w t ty e ie z ht hi hz ⟨g, 0, none⟩ d.len cap xs (by rw [hxl, hs]) holds ad m c news hl hnews (by omega) (by unfold maxLen at h63; omega) (growslice_fits (by omega) hbytes)
          rw [hr'] at hr
          simp only [Result.ok.injEq] at hr
          rw [← hr.1] at hg'
          simp only [ownB] at hg'
          split at hg'
          · cases hg'
          · simp only [Option.some.injEq] at hg'; omega
      · exact .inr hge
    · refine ⟨by rw [List.length_append, hxl, hl, hd', hz', ← hs, ← Nat.add_mul], fun u hu => (List.mem_append.1 hu).elim (hx1 u) (h1 u), ?_⟩
      rcases h2.2 with ⟨q1, q2⟩ | ⟨g2, cap2, cur2, q1, q2, q3, q4, q5, q6, q7⟩
      · omega
      · exact .inr ⟨g2, cap2, cur2, by rw [q1, hd'], q3, by omega, q5, by omega, by rw [hz', hs]; exact q6, by rw [hd', hz', hs]; exact q7⟩

def appendA (i : TI) (esz bytes : Nat) (obs : List Ob) (s x : AV) : Option (Prop × AV × List Ob) :=
  if i.kind = 3 then
    match slOf obs x with
    | some u =>
      match s with
      | .row o k =>
        match obs[o]? with
        | some (.row e t k') =>
          if k = k' ∧ e = i.elem ∧ t.sz = esz then
            match t.app u with
            | some t' => some (t.len + u.len ≤ maxLen ∧ (t.len + u.len) * bytes ≤ 140737488355328, .row o (k + 1), obs.set o (.row e t' (k + 1)))
            | none => none
          else none
        | _ => none
      | .d (.v (.slice none 0 0)) =>
        match i.nil.app u with
        | some t' => some (u.len ≤ maxLen ∧ u.len * bytes ≤ 140737488355328, .row obs.length 1, obs ++ [.row i.elem t' 1])
        | none => none
      | _ => none
    | none => none
  else none

/-- The source's cells. -/
theorem src_cells (hst : St F.w0 F.X F.S0 obs V S w) {x : AV} {v : Value} {u : Dt} (hx : RepA S w obs V x v) (h : slOf obs x = some u) (hs : 0 < u.len) :
    ∃ ad c news, v = .slice (some ad) u.len c ∧ news.length = u.len * u.sz ∧ (∀ (j : Nat) (q : Value), news[j]? = some q → w.cell? (ad.add j) = some q) ∧ (∀ q ∈ news, q.oneCell' = true) ∧ RepRow S w u news := by
  obtain ⟨A, c, hv, _, _, hce⟩ := slOf_ok hst hx h
  obtain ⟨b, q, rfl, hc2⟩ := hce hs
  have hsl : u.isSl = true := by cases u <;> first | rfl | simp [Dt.len] at hs
  have hex : ∀ n, n < u.len * u.sz → ∃ d val, (u.el (n / u.sz))[n % u.sz]? = some d ∧ w.cell? ⟨b, q + n, none⟩ = some val ∧ Rep S w d val := by
    intro n hn
    have hz := Dt.sz_pos u
    have h1 : n / u.sz < u.len := (Nat.div_lt_iff_lt_mul hz).2 hn
    have h2 : n % u.sz < u.sz := Nat.mod_lt _ hz
    have h3 : (u.el (n / u.sz))[n % u.sz]? = some ((u.el (n / u.sz))[n % u.sz]'(by rw [Dt.el_len _ _ hsl]; exact h2)) := List.getElem?_eq_getElem _
    obtain ⟨val, p1, p2⟩ := hc2 _ _ _ h1 h3
    rw [Nat.mul_comm, Nat.div_add_mod] at p1
    exact ⟨_, val, h3, p1, p2⟩
  refine ⟨⟨b, q, none⟩, c, (List.range (u.len * u.sz)).map (fun n => (w.cell? ⟨b, q + n, none⟩).getD undef), hv, by simp, fun j r hr => ?_, fun r hr => ?_, fun j e d hj hd => ?_⟩
  · by_cases hj : j < u.len * u.sz
    · obtain ⟨d, val, p1, p2, p3⟩ := hex j hj
      simp only [List.getElem?_map, List.getElem?_range hj, Option.map_some, Option.some.injEq, p2, Option.getD_some] at hr
      subst hr
      rw [add_at]; exact p2
    · rw [List.getElem?_eq_none (by simp; omega)] at hr; cases hr
  · obtain ⟨n, hn, rfl⟩ := List.mem_map.1 hr
    obtain ⟨d, val, p1, p2, p3⟩ := hex n (List.mem_range.1 hn)
    rw [p2]; exact p3.oneCell
  · have hee : e < u.sz := by rw [← Dt.el_len u j hsl]; exact (List.getElem?_eq_some_iff.1 hd).1
    have hlt : j * u.sz + e < u.len * u.sz := by
      calc j * u.sz + e < j * u.sz + u.sz := by omega
        _ = (j + 1) * u.sz := by rw [Nat.add_mul]; omega
        _ ≤ _ := Nat.mul_le_mul_right _ hj
    obtain ⟨val, p1, p2⟩ := hc2 j d e hj hd
    exact ⟨val, by simp [hlt, p1], p2⟩

theorem append_row (hst : St F.w0 F.X F.S0 obs V S w) (hT : TOk P t i) (hk : i.kind = 3) {ie : TI} (hE : TOk P i.elem ie) (ty : TypeId) {o k : Nat} {d d' u : Dt} (ho : obs[o]? = some (.row i.elem d k)) (hdz : d.sz = ie.size) (hz : 0 < ie.size)
    {x : AV} {xv : Value} (hx : RepA S w obs V x xv) (hu : slOf obs x = some u) (happ : d.app u = some d') (hp1 : d.len + u.len ≤ maxLen) (hp2 : (d.len + u.len) * ie.bytes ≤ 140737488355328) :
    Out P F obs V S w (Builtin.append_ #[t, t] ty #[V o, xv]) (.row o (k + 1)) (obs.set o (.row i.elem d' (k + 1))) := by
  obtain ⟨ht, _⟩ := hT.slct hk
  obtain ⟨q, _, hq1, hq2, hq3, hq4⟩ := hE.run_info (w := w)
  have hzs : ie.zval.cells.size = q.size := by rw [hq3]; exact hE.zsz
  obtain ⟨h1, xs, hrow, h5⟩ := hst.ob o _ ho
  obtain ⟨a1, a2, a3, a4, a5, a6, a7⟩ := app_ok happ
  have hl : o < obs.length := (List.getElem?_eq_some_iff.1 ho).1
  have hver : verOf obs o = some k := by simp [verOf, ho, Ob.ver]
  have hevo : ∀ v', (∀ a, V o = .pointer a → v' = .pointer a) → Evo obs V (obs.set o (.row i.elem d' (k + 1))) (upd V o v') := fun v' hv => Evo.set ho hv (fun k1 hk1 => by
    simp only [Ob.ver, Option.some.injEq] at hk1
    subst hk1
    exact ⟨k, rfl, by omega, fun e => by omega⟩)
  have hnp : ∀ a, V o = .pointer a → False := fun a ha => by
    obtain ⟨A, n, c, hV⟩ := hst.isSlice hver
    rw [hV] at ha; cases ha
  have hres : ∀ {S' w' v'}, RepA S' w' (obs.set o (.row i.elem d' (k + 1))) (upd V o v') (.row o (k + 1)) v' := fun {S' w' v'} => by
    refine ⟨by simpa using hl, fun k0 h0 => ?_⟩
    have : k0 = k + 1 := by simp [verOf, hl, Ob.ver] at h0; omega
    subst this
    exact ⟨Nat.le_refl _, fun _ => upd_eq.symm⟩
  by_cases hu0 : u.len = 0
  · obtain ⟨B, c', rfl, _, _, _⟩ := slOf_ok hst hx hu
    obtain ⟨A, c, hV, hc, _, _⟩ := row_slice hst hver
    have hdt : dtAt obs o = d := by simp [dtAt, ho, Ob.dt]
    rw [hdt] at hV hc
    have hrun := run_append_zero (P := P) (w := w) (ty := ty) ht hq1 A B d.len c c' hc
    rw [hu0]
    have he := hevo (V o) (fun a ha => (hnp a ha).elim)
    refine ⟨V o, w, upd V o (V o), S, by rw [hV]; exact hrun, hst.turn ho rfl rfl rfl rfl (Nat.le_refl _) (fun _ _ _ => rfl) (fun _ _ h => h) (fun _ _ h => .inl h) he ?_ (fun g _ hg => .inl hg), fun y r hy => RepA.mono (fun _ _ h => h) (fun _ _ _ => rfl) he y r hy, hres⟩
    have e1 : d'.len = d.len := by omega
    refine ⟨a1, xs, ?_, ?_⟩
    · unfold RowAt at hrow ⊢
      rw [e1, a4, upd_eq]; exact hrow
    · intro j e dd hj hd
      rw [a6 j (by omega)] at hd
      rw [a4]
      exact h5 j e dd (by omega) hd
  · obtain ⟨ad, c, news, rfl, n1, n2, n3, n4⟩ := src_cells hst hx hu (by omega)
    have huz : u.sz = d.sz := a5 (by omega)
    obtain ⟨v', w', hrun, hg, hng, hro⟩ := run_append_row (P := P) (t := t) (ty := ty) ht hq1 hq2 hzs (by rw [hq3]; exact hz) (by rw [hq3]; exact hdz) hrow ad u.len c (by omega) news (by rw [n1, huz, hdz, hq3]) n2 n3 hp1 (by rw [hq4]; exact hp2)
    have he := hevo v' (fun a ha => (hnp a ha).elim)
    have hblk : ∀ k, k < w.heap.size → ownB (V o) ≠ some k → w'.heap[k]? = w.heap[k]? := fun k hk hne => hg.block k hk (fun e => hne e.symm)
    have hw : ∀ b j, S b j → w'.cell? ⟨b, j, none⟩ = w.cell? ⟨b, j, none⟩ := fun b j hj => cell_block (hblk b (hst.sheap b j hj) (fun e => hst.off o _ b j ho rfl e hj))
    refine ⟨v', w', upd V o v', S, hrun, hst.turn ho rfl hg.os hg.tape hg.output hg.size hblk (fun _ _ h => h) (fun _ _ h => .inl h) he ?_ (fun g _ hg => hng g hg), fun y r hy => RepA.mono (fun _ _ h => h) hw he y r hy, hres⟩
    have hrow' := hro d' a3 a4
    refine ⟨a1, xs ++ news, by rw [upd_eq]; exact hrow', ?_⟩
    have m1 := h5.mono (fun _ _ h => h) hw
    have m2 := n4.mono (fun _ _ h => h) hw
    intro j e dd hj hd
    by_cases hlt : j < d.len
    · rw [a6 j hlt] at hd
      obtain ⟨r, hr, hrr⟩ := m1 j e dd hlt hd
      refine ⟨r, ?_, hrr⟩
      rw [a4, List.getElem?_append_left (List.getElem?_eq_some_iff.1 hr).1]; exact hr
    · obtain ⟨j', rfl⟩ : ∃ j', j = d.len + j' := ⟨j - d.len, by omega⟩
      rw [a7 j' (by omega)] at hd
      obtain ⟨r, hr, hrr⟩ := m2 j' e dd (by omega) hd
      refine ⟨r, ?_, hrr⟩
      rw [List.getElem?_append_right (by rw [hrow.1, a4, Nat.add_mul]; omega), hrow.1, a4, Nat.add_mul, ← huz]
      rw [← hr]; congr 1; omega

theorem appendA_ok (hst : St F.w0 F.X F.S0 obs V S w) (hT : TOk P t i) {ie : TI} (hE : TOk P i.elem ie) (hsz : i.nil.sz = ie.size) (ty : TypeId) {s x : AV} {sv xv : Value} (hs : RepA S w obs V s sv) (hx : RepA S w obs V x xv)
    {p : Prop} {r : AV} {obs' : List Ob} (h : appendA i ie.size ie.bytes obs s x = some (p, r, obs')) (hp : p) :
    Out P F obs V S w (Builtin.append_ #[t, t] ty #[sv, xv]) r obs' := by
  have hz : 0 < ie.size := by rw [← hsz]; exact Dt.sz_pos _
  unfold appendA at h
  split at h
  · rename_i hk
    split at h
    · rename_i u hu
      split at h
      · rename_i o k
        split at h
        · rename_i e d k' ho
          split at h
          · rename_i hh
            obtain ⟨rfl, rfl, hdz⟩ := hh
            split at h
            · rename_i d' happ
              simp only [Option.some.injEq, Prod.mk.injEq] at h
              obtain ⟨rfl, rfl, rfl⟩ := h
              rw [row_now (by simp [verOf, ho, Ob.ver]) hs]
              exact append_row hst hT hk hE ty ho hdz hz hx hu happ hp.1 hp.2
            · cases h
          · cases h
        · cases h
      · split at h
        · rename_i d' happ
          simp only [Option.some.injEq, Prod.mk.injEq] at h
          obtain ⟨rfl, rfl, rfl⟩ := h
          have e1 := Rep.scalar hs; subst e1
          obtain ⟨_, hn1, hn2⟩ := hT.slct hk
          obtain ⟨V1, b1, b2, b3, b4⟩ := hst.noRow i.elem hn1 hn2 none
          have hu' : slOf (obs ++ [.row i.elem i.nil 0]) x = some u := by
            cases x <;> try exact hu
            rename_i o k
            have hlt : o < obs.length := hx.1
            simp only [slOf] at hu ⊢
            simp only [verOf, dtAt, List.getElem?_append_left hlt] at hu ⊢
            exact hu
          have hob : (obs ++ [Ob.row i.elem i.nil 0])[obs.length]? = some (.row i.elem i.nil 0) := by simp
          obtain ⟨v, w', V', S', c1, c2, c3, c4⟩ := append_row b1 hT hk hE ty hob hsz hz (b2 _ _ hx) hu' happ (by rw [hn2, Nat.zero_add]; exact hp.1) (by rw [hn2, Nat.zero_add]; exact hp.2)
          rw [b4] at c1
          have hset : (obs ++ [Ob.row i.elem i.nil 0]).set obs.length (.row i.elem d' (0 + 1)) = obs ++ [.row i.elem d' 1] := by simp
          rw [hset] at c2 c3 c4
          exact ⟨v, w', V', S', c1, c2, b2.trans c3, c4⟩
        · cases h
      · cases h
    · cases h
  · cases h
end
end Go.Proofs.YtlhfjjkoflpecaaAw
