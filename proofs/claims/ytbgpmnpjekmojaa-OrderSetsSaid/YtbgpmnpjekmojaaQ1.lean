/- Part 1 of the texts that the proof rests on: an abstract machine over pure values, what functions of the program come to. No condition. -/
import Derived.WalkKit
import Derived.OrdersIn
import Derived.RangeFuncLeaves
import Derived.RangeFuncFrom
import Derived.Deep.Upon

set_option linter.unusedSimpArgs false
set_option linter.unusedVariables false
set_option linter.unnecessarySimpa false

/- The abstract machine: pure values, pure states, and what one operation does to them. No condition. -/
namespace Go.Vai

/-- A value without memory: a slice is its elements (each a list of cells), what is owned is a row with a number. -/
inductive PV where
  | s (v : Value)
  | nils
  | slc (sz : Nat) (es : List (List PV)) (full : Bool)
  | xs (k : Nat) (w : Option (Nat × Nat))
  | ptr (k i off : Nat)
  | ept (cells : List PV)
  | clo (f : Nat) (caps : List PV)
  | agg (cs : List PV)
  | tup (vs : List PV)
  | bad

abbrev iv (n : Int) : PV := .s (.int .i64 n)
abbrev uv (n : Int) : PV := .s (.int .u64 n)
abbrev bv (b : Bool) : PV := .s (.bool b)
abbrev sv (b : ByteArray) : PV := .s (.string b)
abbrev fnv (f : Nat) : PV := .s (.func (.func f) #[] #[])

inductive Row where
  | cell (cs : List PV)
  | row (sz : Nat) (es : List (List PV))

structure St where
  fr : Nat → PV
  H : Nat → Option Row

inductive TK where
  | int (k : IntKind) | float (k : FloatKind) | string | struct | slice | array (n : Nat) | func | bool | other

structure Ty where
  size : Nat
  agg : Bool
  zero : List PV
  flds : List (Nat × Nat)
  el : Nat
  eb : Nat
  kind : TK

structure Ctx where
  P : Program
  T : Nat → Option Ty
  N : Nat
  hf : Nat → Bool
  mt : Nat → Bool
  mv : Nat → Bool
  top : Bool

def upd {α : Type} (f : Nat → α) (i : Nat) (v : α) : Nat → α := fun j => match Nat.beq j i with | true => v | false => f j

def has0 (k : Nat) : PV → Bool
  | .xs j _ => Nat.beq j k
  | .ptr j _ _ => Nat.beq j k
  | _ => false
def has1 (k : Nat) : PV → Bool
  | .clo _ cs => cs.any (has0 k)
  | p => has0 k p
def has2 (k : Nat) : PV → Bool
  | .agg cs => cs.any (has1 k)
  | p => has1 k p
def has (k : Nat) : PV → Bool
  | .tup vs => vs.any (has2 k)
  | p => has2 k p
def kill (k : Nat) (p : PV) : PV := match has k p with | true => .bad | false => p
def kill1 (k : Nat) (p : PV) : PV := match has1 k p with | true => .bad | false => p
def killR (k : Nat) : Row → Row
  | .cell cs => .cell (cs.map (kill1 k))
  | r => r

/-- Data: what may lie in a slice's element. -/
def isD : PV → Bool
  | .s _ => true | .slc _ _ _ => true | _ => false
/-- What may lie in a cell. -/
def isC : PV → Bool
  | .agg _ => false | .tup _ => false | _ => true

def St.kill (st : St) (k : Nat) : St := ⟨fun j => Vai.kill k (st.fr j), fun j => (st.H j).map (killR k)⟩
def St.put (st : St) (d : Option Nat) (v : PV) : St := match d with | some d => ⟨upd st.fr d v, st.H⟩ | none => st
def St.setH (st : St) (k : Nat) (r : Row) : St := ⟨st.fr, upd st.H k (some r)⟩

def ofVal : Value → PV
  | .slice none 0 0 => .nils
  | .slice _ _ _ => .bad
  | .agg _ => .bad
  | .tuple _ => .bad
  | v => .s v

def St.ev (st : St) : Operand → PV
  | .tmp t => st.fr t
  | .const v => ofVal v
  | .func f => fnv f
  | .global _ => .bad

def cellsOf : PV → List PV
  | .agg cs => cs
  | p => [p]

def setCells (cs : List PV) (off : Nat) : List PV → List PV
  | [] => cs
  | v :: vs => setCells (cs.set off v) (off + 1) vs

def lid (d : Nat) : Nat := d + 100

def St.new (st : St) (d : Nat) (r : Row) (p : PV) : St := let st1 := st.kill (lid d); ⟨upd st1.fr d p, upd st1.H (lid d) (some r)⟩

def ofCells (agg : Bool) (cs : List PV) : PV := match agg with | true => .agg cs | false => cs.headD .bad

def force1 (p : PV) (k : PV → Prop) : Prop := match p with
  | .s v => k (.s v) | .nils => k .nils | .slc sz es f => k (.slc sz es f) | .xs a b => k (.xs a b) | .ptr a b c => k (.ptr a b c)
  | .ept cs => k (.ept cs) | .clo f cs => k (.clo f cs) | .agg cs => k (.agg cs) | .tup vs => k (.tup vs) | .bad => k .bad
def forceL : List PV → (List PV → Prop) → Prop
  | [], k => k []
  | p :: r, k => force1 p fun p' => forceL r fun r' => k (p' :: r')
def force2 (p : PV) (k : PV → Prop) : Prop := match p with
  | .ept cs => forceL cs fun cs' => k (.ept cs')
  | .clo f cs => forceL cs fun cs' => k (.clo f cs')
  | .agg cs => forceL cs fun cs' => k (.agg cs')
  | p => force1 p k
def forceL2 : List PV → (List PV → Prop) → Prop
  | [], k => k []
  | p :: r, k => force2 p fun p' => forceL2 r fun r' => k (p' :: r')
def force (p : PV) (k : PV → Prop) : Prop := match p with
  | .tup vs => forceL2 vs fun vs' => k (.tup vs')
  | p => force2 p k

theorem force1_eq (p : PV) (k : PV → Prop) : force1 p k = k p := by cases p <;> rfl
theorem forceL_eq : ∀ (l : List PV) (k : List PV → Prop), forceL l k = k l
  | [], _ => rfl
  | p :: r, k => by rw [forceL, force1_eq, forceL_eq r]
theorem force2_eq (p : PV) (k : PV → Prop) : force2 p k = k p := by
  cases p <;> first | rfl | (rw [force2, forceL_eq])
theorem forceL2_eq : ∀ (l : List PV) (k : List PV → Prop), forceL2 l k = k l
  | [], _ => rfl
  | p :: r, k => by rw [forceL2, force2_eq, forceL2_eq r]
theorem force_eq (p : PV) (k : PV → Prop) : force p k = k p := by
  unfold force; split
  · exact forceL2_eq _ _
  · exact force2_eq _ _

def brP (c : Bool) (A B : Prop) : Prop := @Bool.rec (fun _ => Prop) B A c
theorem brP_eq (c : Bool) (A B : Prop) : brP c A B = (if c = true then A else B) := by cases c <;> rfl
theorem Br {c : Bool} {A B : Prop} (ht : c = true → A) (hf : c = false → B) : @Bool.rec (fun _ => Prop) B A c := by
  cases c
  · exact hf rfl
  · exact ht rfl

def St.putF (st : St) (d : Option Nat) (v : PV) (k : St → Prop) : Prop := force v fun v' => k (st.put d v')

/-- What a run without memory comes to, whatever is drawn. -/
def semW {α : Type} : Sem α → (α → Prop) → Prop
  | .pure a, k => k a
  | .choose q f, k => match q with
    | .nanBits _ _ _ => ∀ n : Nat, semW (f (q.cut n)) k
    | _ => False
  | _, _ => False

def fillP (place : Nat → Option (Nat × Nat)) (cs : List PV) : List (Nat × List PV) → (List PV → Prop) → Prop
  | [], k => k cs
  | (i, vs) :: rest, k => match place i with
    | none => False
    | some (off, size) => match Nat.beq vs.length size && Nat.ble (off + vs.length) cs.length with
      | true => fillP place (setCells cs off vs) rest k
      | false => False

def partOf (ps : List (Nat × PV)) (i : Nat) : Option PV := match ps with
  | [] => none
  | (j, v) :: r => match Nat.beq j i with | true => some v | false => partOf r i

/-- The elements of a literal: each is given, of the right size, and data. -/
def litEs (ps : List (Nat × PV)) (sz : Nat) : Nat → Nat → (List (List PV) → Prop) → Prop
  | 0, _, k => match ps with | [] => k [] | _ => False
  | n + 1, i, k => match ps with
    | [] => False
    | (j, v) :: r => match Nat.beq j i && (Nat.beq (cellsOf v).length sz && (cellsOf v).all isD) with
      | true => litEs r sz n (i + 1) fun es => k (cellsOf v :: es)
      | false => False

def lenP : PV → Option Int
  | .s (.string b) => some b.size
  | .slc _ es _ => some es.length
  | .xs _ (some w) => some w.2
  | .nils => some 0
  | _ => none

/-- A nil of known type is a slice of no elements and no room. -/
def typed (T : Nat → Option Ty) (t : Nat) (p : PV) : PV := match p with
  | .nils => (match T t with | some ty => .slc ty.el [] true | none => .bad)
  | p => p

/-- What is handed over as data bears no right to its room. -/
def dem1 : PV → PV
  | .slc sz es _ => .slc sz es false
  | p => p
def demL : List PV → List PV
  | [] => []
  | p :: r => dem1 p :: demL r
def dem2 : PV → PV
  | .agg cs => .agg (demL cs)
  | p => dem1 p
def demL2 : List PV → List PV
  | [] => []
  | p :: r => dem2 p :: demL2 r
def dem : PV → PV
  | .tup vs => .tup (demL2 vs)
  | p => dem2 p

/-- Row k is handed out as data: whoever named it holds its elements. -/
def pub0 (k sz : Nat) (es : List (List PV)) (p : PV) : PV := match p with
  | .xs j none => (match Nat.beq j k with | true => .slc sz es false | false => p)
  | .xs j (some (lo, n)) => (match Nat.beq j k with | true => .slc sz ((es.drop lo).take n) false | false => p)
  | p => (match has1 k p with | true => .bad | false => p)
def pubL (k sz : Nat) (es : List (List PV)) : List PV → List PV
  | [] => []
  | p :: r => pub0 k sz es p :: pubL k sz es r
def pub2 (k sz : Nat) (es : List (List PV)) (p : PV) : PV := match p with
  | .agg cs => .agg (pubL k sz es cs)
  | p => pub0 k sz es p
def pubL2 (k sz : Nat) (es : List (List PV)) : List PV → List PV
  | [] => []
  | p :: r => pub2 k sz es p :: pubL2 k sz es r
def pub (k sz : Nat) (es : List (List PV)) (p : PV) : PV := match p with
  | .tup vs => .tup (pubL2 k sz es vs)
  | p => pub2 k sz es p
def pubR (k sz : Nat) (es : List (List PV)) : Row → Row
  | .cell cs => .cell (pubL k sz es cs)
  | r => r
/-- Cells that are captured and never written again: whoever pointed to them points to data. -/
def frz0 (k : Nat) (cs : List PV) (p : PV) : PV := match p with
  | .ptr j 0 off => (match Nat.beq j k with | true => .ept (cs.drop off) | false => p)
  | p => (match has1 k p with | true => .bad | false => p)
def frz (k : Nat) (cs : List PV) (p : PV) : PV := match p with
  | .agg _ => (match has k p with | true => .bad | false => p)
  | .tup _ => (match has k p with | true => .bad | false => p)
  | p => frz0 k cs p
def frzL (k : Nat) (cs : List PV) : List PV → List PV
  | [] => []
  | p :: r => frz0 k cs p :: frzL k cs r
def frzR (k : Nat) (cs : List PV) : Row → Row
  | .cell ds => .cell (frzL k cs ds)
  | r => r
def St.drop (st : St) (k : Nat) (f : PV → PV) (g : Row → Row) : St := ⟨fun j => f (st.fr j), fun j => match Nat.beq j k with | true => none | false => (st.H j).map g⟩
def St.pub (st : St) (k : Nat) (K : St → Prop) : Prop := match st.H k with
  | some (.row sz es) => K (st.drop k (Vai.pub k sz es) (pubR k sz es))
  | _ => False
def St.frz (st : St) (k : Nat) (K : St → Prop) : Prop := match st.H k with
  | some (.cell cs) => (match cs.all isD with | true => K (st.drop k (Vai.frz k cs) (frzR k cs)) | false => False)
  | _ => False

/-- The first row that a value names. -/
def id0 : PV → Option Nat
  | .xs k _ => some k
  | _ => none
def idL : List PV → Option Nat
  | [] => none
  | p :: r => (match id0 p with | some k => some k | none => idL r)
def idA : List PV → Option Nat
  | [] => none
  | .agg cs :: r => (match idL cs with | some k => some k | none => idA r)
  | p :: r => (match id0 p with | some k => some k | none => idA r)
def bare0 : PV → Bool
  | .xs _ _ => false | .ptr _ _ _ => false | .bad => false | .nils => false | _ => true
def bare1 : PV → Bool
  | .clo _ cs => cs.all bare0
  | p => bare0 p
def bare2 : PV → Bool
  | .agg cs => cs.all bare1
  | .tup _ => false
  | p => bare1 p
def bareA (l : List PV) : Bool := l.all bare2
def bareT : PV → Bool
  | .tup vs => vs.all bare2
  | p => bare2 p

def evs (st : St) (T : Nat → Option Ty) : List Operand → List Nat → List PV
  | [], _ => []
  | x :: r, [] => st.ev x :: evs st T r []
  | x :: r, t :: ts => typed T t (st.ev x) :: evs st T r ts

/-- Of one call: arguments, rows handed over, result, rows handed back (more: new ones). -/
def ren0 (ks : List Nat) : PV → PV
  | .xs j w => .xs (ks.getD j 0) w
  | .ptr j i off => .ptr (ks.getD j 0) i off
  | p => p
def ren1 (ks : List Nat) : PV → PV
  | .clo f cs => .clo f (cs.map (ren0 ks))
  | p => ren0 ks p
def ren2 (ks : List Nat) : PV → PV
  | .agg cs => .agg (cs.map (ren1 ks))
  | p => ren1 ks p
def ren (ks : List Nat) : PV → PV
  | .tup vs => .tup (vs.map (ren2 ks))
  | p => ren2 ks p
def renR (ks : List Nat) : Row → Row
  | .cell cs => .cell (cs.map (ren1 ks))
  | r => r

end Go.Vai

/- What pure values and states stand for in memory. No condition. -/
namespace Go.Vai

/-- Where a row lies: nowhere yet (no room), or a block with room for so many elements of so many cells, the first len in use. -/
inductive RA where
  | nil_
  | blk (b cap sz len : Nat)

structure Cx where
  β : Nat → Option RA
  ok : Nat → Nat → Prop

/-- Data read in a world, out of cells that nobody will write. -/
inductive RepD (w : World) (ok : Nat → Nat → Prop) : PV → Value → Prop where
  | s (v : Value) (h : v.oneCell' = true) : RepD w ok (.s v) v
  | slc (sz : Nat) (es : List (List PV)) (full : Bool) (A : Option Addr) (c : Nat) (us : Nat → Nat → Value)
      (hc : es.length ≤ c) (hf : full = true → c = es.length) (he : ∀ (i : Nat) e, es[i]? = some e → e.length = sz)
      (ha : es ≠ [] → ∃ b o, A = some ⟨b, o, none⟩ ∧ ∀ i j, i < es.length → j < sz → ok b (o + (i * sz + j)) ∧ w.cell? ⟨b, o + (i * sz + j), none⟩ = some (us i j))
      (hr : ∀ (i j : Nat) e p, es[i]? = some e → e[j]? = some p → RepD w ok p (us i j)) : RepD w ok (.slc sz es full) (.slice A es.length c)
  | ept (cs : List PV) (b o : Nat) (us : Nat → Value)
      (ha : ∀ j, j < cs.length → ok b (o + j) ∧ w.cell? ⟨b, o + j, none⟩ = some (us j))
      (hr : ∀ (j : Nat) p, cs[j]? = some p → RepD w ok p (us j)) : RepD w ok (.ept cs) (.pointer (some ⟨b, o, none⟩))

theorem RepD.mono {w w' : World} {ok ok' : Nat → Nat → Prop} (h : ∀ b o v, ok b o → w.cell? ⟨b, o, none⟩ = some v → ok' b o ∧ w'.cell? ⟨b, o, none⟩ = some v) {p : PV} {v : Value} (hr : RepD w ok p v) : RepD w' ok' p v := by
  induction hr with
  | s v h1 => exact .s v h1
  | slc sz es full A c us hc hf he ha _ ih =>
    refine .slc sz es full A c us hc hf he (fun hn => ?_) ih
    obtain ⟨b, o, hA, hx⟩ := ha hn
    exact ⟨b, o, hA, fun i j hi hj => h _ _ _ (hx i j hi hj).1 (hx i j hi hj).2⟩
  | ept cs b o us ha _ ih => exact .ept cs b o us (fun j hj => h _ _ _ (ha j hj).1 (ha j hj).2) ih

theorem RepD.one {w : World} {ok : Nat → Nat → Prop} {p : PV} {v : Value} (hr : RepD w ok p v) : v.oneCell' = true := by
  cases hr <;> first | assumption | rfl

def Cx.at (cx : Cx) (k : Nat) (f : RA → Prop) : Prop := ∃ ra, cx.β k = some ra ∧ f ra

def RepX (w : World) (cx : Cx) (p : PV) (v : Value) : Prop := match p with
  | .xs k none => cx.at k fun
    | .nil_ => ∃ A, v = .slice A 0 0
    | .blk b cap _ len => v = .slice (some ⟨b, 0, none⟩) len cap
  | .xs k (some (lo, n)) => cx.at k fun
    | .nil_ => lo = 0 ∧ n = 0 ∧ ∃ A, v = .slice A 0 0
    | .blk b cap sz len => lo + n ≤ len ∧ ∃ A, v = .slice A n (cap - lo) ∧ (n = 0 ∨ A = some ⟨b, lo * sz, none⟩)
  | .ptr k i off => cx.at k fun
    | .nil_ => False
    | .blk b _ sz _ => v = .pointer (some ⟨b, i * sz + off, none⟩)
  | .nils => v = .slice none 0 0
  | p => RepD w cx.ok p v

/-- One cell. -/
def RepC (w : World) (cx : Cx) (p : PV) (v : Value) : Prop := match p with
  | .bad => True
  | .agg _ => False
  | .tup _ => False
  | .clo f cs => ∃ us : List Value, v = .func (.func f) #[] us.toArray ∧ us.length = cs.length ∧ ∀ (i : Nat) c u, cs[i]? = some c → us[i]? = some u → RepX w cx c u ∧ u.oneCell' = true
  | p => RepX w cx p v

/-- Cells in line. -/
def RepL (w : World) (cx : Cx) (cs : List PV) (us : List Value) : Prop := us.length = cs.length ∧ ∀ (i : Nat) c u, cs[i]? = some c → us[i]? = some u → RepC w cx c u ∧ u.oneCell' = true

def Rep2 (w : World) (cx : Cx) (p : PV) (v : Value) : Prop := match p with
  | .agg cs => ∃ us : List Value, v = .agg us.toArray ∧ RepL w cx cs us
  | p => RepC w cx p v

def RepV (w : World) (cx : Cx) (p : PV) (v : Value) : Prop := match p with
  | .tup vs => ∃ us : List Value, v = .tuple us.toArray ∧ us.length = vs.length ∧ ∀ (i : Nat) c u, vs[i]? = some c → us[i]? = some u → Rep2 w cx c u
  | p => Rep2 w cx p v

def RepRow (w : World) (cx : Cx) (r : Row) (ra : RA) : Prop := match r with
  | .cell cs => ∃ b us t, ra = .blk b 1 cs.length 1 ∧ w.heap[b]? = some (.cells us t (0, 0)) ∧ RepL w cx cs us.toList
  | .row sz es => (ra = .nil_ ∧ es = []) ∨ ∃ b cap us t, ra = .blk b cap sz es.length ∧ w.heap[b]? = some (.cells us t (0, 0)) ∧ us.size = cap * sz ∧ es.length ≤ cap
      ∧ (∀ (i : Nat) e, es[i]? = some e → e.length = sz) ∧ ∀ (i j : Nat) e p, es[i]? = some e → e[j]? = some p → ∃ u, us[i * sz + j]? = some u ∧ RepD w cx.ok p u

/-! ### A step of the world that leaves data, and the rows named, as they were -/
structure Move (w w' : World) (cx cx' : Cx) : Prop where
  cell : ∀ b o v, cx.ok b o → w.cell? ⟨b, o, none⟩ = some v → cx'.ok b o ∧ w'.cell? ⟨b, o, none⟩ = some v

theorem Cx.at_mono {cx cx' : Cx} {k : Nat} {f : RA → Prop} (h : cx'.β k = cx.β k) (hf : cx.at k f) : cx'.at k f := by
  obtain ⟨ra, h1, h2⟩ := hf
  exact ⟨ra, h.trans h1, h2⟩

section
variable {w w' : World} {cx cx' : Cx}
theorem RepX.mono (hm : Move w w' cx cx') {p : PV} {v : Value} (hβ : ∀ k, has0 k p = true → cx'.β k = cx.β k) (hr : RepX w cx p v) : RepX w' cx' p v := by
  cases p with
  | xs k o => cases o <;> exact Cx.at_mono (hβ k (by simp [has0])) hr
  | ptr k i off => exact Cx.at_mono (hβ k (by simp [has0])) hr
  | nils => exact hr
  | _ => exact RepD.mono hm.cell hr
theorem RepC.mono (hm : Move w w' cx cx') {p : PV} {v : Value} (hβ : ∀ k, has1 k p = true → cx'.β k = cx.β k) (hr : RepC w cx p v) : RepC w' cx' p v := by
  cases p with
  | bad => trivial
  | agg _ => exact hr
  | tup _ => exact hr
  | clo f cs =>
    obtain ⟨us, h1, h2, h3⟩ := hr
    refine ⟨us, h1, h2, fun i c u hc hu => ⟨RepX.mono hm (fun k hk => hβ k ?_) (h3 i c u hc hu).1, (h3 i c u hc hu).2⟩⟩
    simp only [has1, List.any_eq_true]
    exact ⟨c, List.mem_of_getElem? hc, hk⟩
  | s x => exact RepX.mono (p := .s x) hm hβ hr
  | nils => exact RepX.mono (p := .nils) hm hβ hr
  | slc a b c => exact RepX.mono (p := .slc a b c) hm hβ hr
  | xs a b => exact RepX.mono (p := .xs a b) hm hβ hr
  | ptr a b c => exact RepX.mono (p := .ptr a b c) hm hβ hr
  | ept a => exact RepX.mono (p := .ept a) hm hβ hr
theorem RepL.mono (hm : Move w w' cx cx') {cs : List PV} {us : List Value} (hβ : ∀ k, cs.any (has1 k) = true → cx'.β k = cx.β k) (hr : RepL w cx cs us) : RepL w' cx' cs us :=
  ⟨hr.1, fun i c u hc hu => ⟨RepC.mono hm (fun k hk => hβ k (List.any_eq_true.2 ⟨c, List.mem_of_getElem? hc, hk⟩)) (hr.2 i c u hc hu).1, (hr.2 i c u hc hu).2⟩⟩
theorem Rep2.mono (hm : Move w w' cx cx') {p : PV} {v : Value} (hβ : ∀ k, has2 k p = true → cx'.β k = cx.β k) (hr : Rep2 w cx p v) : Rep2 w' cx' p v := by
  cases p with
  | agg cs =>
    obtain ⟨us, h1, h2⟩ := hr
    exact ⟨us, h1, RepL.mono hm hβ h2⟩
  | s x => exact RepC.mono (p := .s x) hm hβ hr
  | nils => exact RepC.mono (p := .nils) hm hβ hr
  | slc a b c => exact RepC.mono (p := .slc a b c) hm hβ hr
  | xs a b => exact RepC.mono (p := .xs a b) hm hβ hr
  | ptr a b c => exact RepC.mono (p := .ptr a b c) hm hβ hr
  | ept a => exact RepC.mono (p := .ept a) hm hβ hr
  | clo a b => exact RepC.mono (p := .clo a b) hm hβ hr
  | bad => trivial
  | tup a => exact hr
theorem RepV.mono (hm : Move w w' cx cx') {p : PV} {v : Value} (hβ : ∀ k, has k p = true → cx'.β k = cx.β k) (hr : RepV w cx p v) : RepV w' cx' p v := by
  cases p with
  | tup vs =>
    obtain ⟨us, h1, h2, h3⟩ := hr
    exact ⟨us, h1, h2, fun i c u hc hu => Rep2.mono hm (fun k hk => hβ k (List.any_eq_true.2 ⟨c, List.mem_of_getElem? hc, hk⟩)) (h3 i c u hc hu)⟩
  | s x => exact Rep2.mono (p := .s x) hm hβ hr
  | nils => exact Rep2.mono (p := .nils) hm hβ hr
  | slc a b c => exact Rep2.mono (p := .slc a b c) hm hβ hr
  | xs a b => exact Rep2.mono (p := .xs a b) hm hβ hr
  | ptr a b c => exact Rep2.mono (p := .ptr a b c) hm hβ hr
  | ept a => exact Rep2.mono (p := .ept a) hm hβ hr
  | clo a b => exact Rep2.mono (p := .clo a b) hm hβ hr
  | bad => trivial
  | agg a => exact Rep2.mono (p := .agg a) hm hβ hr
/-- The same, where the row that a value no longer names has gone. -/
theorem RepV.kill (hm : Move w w' cx cx') {k : Nat} {p : PV} {v : Value} (hβ : ∀ j, j ≠ k → cx'.β j = cx.β j) (hr : RepV w cx p v) : RepV w' cx' (Vai.kill k p) v := by
  unfold Vai.kill
  cases h : has k p with
  | true => trivial
  | false => exact RepV.mono hm (fun j hj => hβ j (fun e => by rw [e, h] at hj; cases hj)) hr
theorem RepC.kill1 (hm : Move w w' cx cx') {k : Nat} {p : PV} {v : Value} (hβ : ∀ j, j ≠ k → cx'.β j = cx.β j) (hr : RepC w cx p v) : RepC w' cx' (Vai.kill1 k p) v := by
  unfold Vai.kill1
  cases h : has1 k p with
  | true => trivial
  | false => exact RepC.mono hm (fun j hj => hβ j (fun e => by rw [e, h] at hj; cases hj)) hr
theorem RepL.kill (hm : Move w w' cx cx') {k : Nat} {cs : List PV} {us : List Value} (hβ : ∀ j, j ≠ k → cx'.β j = cx.β j) (hr : RepL w cx cs us) : RepL w' cx' (cs.map (Vai.kill1 k)) us := by
  refine ⟨by rw [hr.1]; simp, fun i c u hc hu => ?_⟩
  rw [List.getElem?_map] at hc
  cases h : cs[i]? with
  | none => rw [h] at hc; cases hc
  | some c0 =>
    rw [h] at hc
    cases hc
    exact ⟨RepC.kill1 hm hβ (hr.2 i c0 u h hu).1, (hr.2 i c0 u h hu).2⟩
/-- A row whose block nobody has written. -/
theorem RepRow.kill (hm : Move w w' cx cx') {k : Nat} {r : Row} {ra : RA} (hβ : ∀ j, j ≠ k → cx'.β j = cx.β j) (hb : ∀ b c s l, ra = .blk b c s l → w'.heap[b]? = w.heap[b]?) (hr : RepRow w cx r ra) : RepRow w' cx' (killR k r) ra := by
  cases r with
  | cell cs =>
    obtain ⟨b, us, t, h1, h2, h3⟩ := hr
    exact ⟨b, us, t, by rw [h1]; simp, (hb _ _ _ _ h1).trans h2, RepL.kill hm hβ h3⟩
  | row sz es =>
    rcases hr with ⟨h1, h2⟩ | ⟨b, cap, us, t, h1, h2, h3, h4, h5, h6⟩
    · exact .inl ⟨h1, h2⟩
    · exact .inr ⟨b, cap, us, t, h1, (hb _ _ _ _ h1).trans h2, h3, h4, h5, fun i j e p he hp => by
        obtain ⟨u, hu, hd⟩ := h6 i j e p he hp
        exact ⟨u, hu, RepD.mono hm.cell hd⟩⟩
def Row.uses (r : Row) (k : Nat) : Bool := match r with | .cell cs => cs.any (has1 k) | _ => false
theorem RepRow.mono (hm : Move w w' cx cx') {r : Row} {ra : RA} (hβ : ∀ k, r.uses k = true → cx'.β k = cx.β k) (hb : ∀ b c s l, ra = .blk b c s l → w'.heap[b]? = w.heap[b]?) (hr : RepRow w cx r ra) : RepRow w' cx' r ra := by
  cases r with
  | cell cs =>
    obtain ⟨b, us, t, h1, h2, h3⟩ := hr
    exact ⟨b, us, t, h1, (hb _ _ _ _ h1).trans h2, RepL.mono hm hβ h3⟩
  | row sz es =>
    rcases hr with ⟨h1, h2⟩ | ⟨b, cap, us, t, h1, h2, h3, h4, h5, h6⟩
    · exact .inl ⟨h1, h2⟩
    · exact .inr ⟨b, cap, us, t, h1, (hb _ _ _ _ h1).trans h2, h3, h4, h5, fun i j e p he hp => by
        obtain ⟨u, hu, hd⟩ := h6 i j e p he hp
        exact ⟨u, hu, RepD.mono hm.cell hd⟩⟩
end

/-! ### A call's frame: what lay there when it began -/
/-- w0: the world when the call began; ok0: the cells that are data then; hk: the blocks handed over, by their handles; fx: rows that stay where they are. -/
structure Env where
  w0 : World
  ok0 : Nat → Nat → Prop
  hk : Nat → Nat → Prop
  fx : Nat → Option RA
  pin : Nat → Obj → Prop
  lo : Nat
  gv : Array Value
/-- What lies at a place of the frame; behind the frame: what is kept for later. -/
def Env.val (E : Env) (N : Nat) (a : Act) (s : Nat) : Option Value := if s < N then a.tmps[s]? else E.gv[s - N]?
def Env.hb (E : Env) (b : Nat) : Prop := ∃ k, E.hk k b

def onB (β : Nat → Option RA) (b : Nat) : Prop := ∃ k c s l, β k = some (.blk b c s l)

def Env.cx (E : Env) (β : Nat → Option RA) (w : World) : Cx := ⟨β, fun b o => E.ok0 b o ∨ (E.w0.heap.size ≤ b ∧ b < w.heap.size ∧ ¬ onB β b)⟩

structure Keeps (w w' : World) (hb : Nat → Prop) : Prop where
  os : w'.os = w.os
  tape : w'.tape = w.tape
  output : w'.output = w.output
  size : w.heap.size ≤ w'.heap.size
  block : ∀ b, b < w.heap.size → ¬ hb b → w'.heap[b]? = w.heap[b]?

/-- The mark that a range over a function leaves among the deferred calls. -/
abbrev markOf (D : Nat) : Deferred := { target := .collected D, args := #[] }
/-- What lies apart from all handles, and is to stay: what has been pinned, and the blocks of marks. -/
structure Oth (E : Env) (β : Nat → Option RA) (a : Act) (w : World) : Prop where
  pin : ∀ b o, E.pin b o → w.heap[b]? = some o ∧ ¬ onB β b
  lo : E.lo ≤ w.heap.size
  marks : ∀ d ∈ a.defers, ∃ D, d = markOf D ∧ E.w0.heap.size ≤ D ∧ w.heap[D]? = some (.deferred (some [])) ∧ ¬ onB β D
  nodup : a.defers.Nodup

theorem Oth.grown {E : Env} {β β' : Nat → Option RA} {a a' : Act} {w w' : World} (h : Oth E β a w) (ha : a'.defers = a.defers) (hs : w.heap.size ≤ w'.heap.size)
    (hh : ∀ b, b < w.heap.size → ¬ onB β b → w'.heap[b]? = w.heap[b]?) (hb : ∀ b, b < w.heap.size → onB β' b → onB β b) : Oth E β' a' w' := by
  have key : ∀ b o, w.heap[b]? = some o ∧ ¬ onB β b → w'.heap[b]? = some o ∧ ¬ onB β' b := fun b o ⟨h1, h2⟩ => by
    have hlt := (Array.getElem?_eq_some_iff.1 h1).1
    exact ⟨(hh b hlt h2).trans h1, fun h3 => h2 (hb b hlt h3)⟩
  refine ⟨fun b o hp => key b o (h.pin b o hp), Nat.le_trans h.lo hs, fun d hd => ?_, ha ▸ h.nodup⟩
  rw [ha] at hd
  obtain ⟨D, h1, h2, h3⟩ := h.marks d hd
  exact ⟨D, h1, h2, key _ _ h3⟩

structure RepS (Γ : Ctx) (E : Env) (β : Nat → Option RA) (st : St) (a : Act) (w : World) : Prop where
  size : a.tmps.size = Γ.N
  oth : Oth E β a w
  frv : ∀ (s : Nat) v, E.val Γ.N a s = some v → RepV w (E.cx β w) (st.fr s) v
  hp : ∀ k r, st.H k = some r → ∃ ra, β k = some ra ∧ RepRow w (E.cx β w) r ra
  dom : ∀ k, st.H k = none → β k = none
  inj : ∀ k k' b c s l c' s' l', β k = some (.blk b c s l) → β k' = some (.blk b c' s' l') → k = k'
  own : ∀ k b c s l, β k = some (.blk b c s l) → (E.w0.heap.size ≤ b ∨ (k < 100 ∧ E.hk k b)) ∧ b < w.heap.size
  keeps : Keeps E.w0 w E.hb
  okb : ∀ b o, E.ok0 b o → b < E.w0.heap.size ∧ ¬ E.hb b
  hbb : ∀ b, E.hb b → b < E.w0.heap.size
  fix : ∀ k ra, E.fx k = some ra → k < 100 ∧ β k = some ra
  fxm : ∀ k, Γ.mv k = true → E.fx k = none

theorem RepS.fr {Γ : Ctx} {E : Env} {β : Nat → Option RA} {st : St} {a : Act} {w : World} (h : RepS Γ E β st a w) (s : Nat) (v : Value) (hv : a.tmps[s]? = some v) : RepV w (E.cx β w) (st.fr s) v := by
  have hlt := (Array.getElem?_eq_some_iff.1 hv).1
  rw [h.size] at hlt
  exact h.frv s v (by unfold Env.val; rw [if_pos hlt]; exact hv)

def Rep (Γ : Ctx) (E : Env) (st : St) (a : Act) (w : World) : Prop := ∃ β, RepS Γ E β st a w

/-- A call of a function with a body, or of one that the machine does at once. -/
def Enters (P : Program) (f : Nat) : Prop := ∃ fn : Func, P.funcs[f]? = some fn ∧ fn.name ≠ "runtime.NumGoroutine" ∧ fn.body.isSome = true
def Does (P : Program) (f : Nat) (vs : Array Value) (w : World) (R : Value → World → Prop) : Prop :=
  (Enters P f ∧ Calls P f vs w fun e w' => ∃ v, e = .returned v ∧ R v w') ∨ ∃ v w', (callFunc f vs).run P w = .ok (.value v) w' ∧ R v w'
theorem Does.mono {P : Program} {f : Nat} {vs : Array Value} {w : World} {R R' : Value → World → Prop} (h : Does P f vs w R) (hr : ∀ v w', R v w' → R' v w') : Does P f vs w R' := by
  rcases h with ⟨h1, h2⟩ | ⟨v, w', h1, h2⟩
  · exact .inl ⟨h1, h2.mono fun e w' ⟨v, h3, h4⟩ => ⟨v, h3, hr v w' h4⟩⟩
  · exact .inr ⟨v, w', h1, hr v w' h2⟩
theorem Enters.run {P : Program} {f : Nat} (h : Enters P f) (vs : Array Value) (w : World) : (callFunc f vs).run P w = .ok (.enter f vs) w := by
  obtain ⟨fn, h1, h2, h3⟩ := h
  have h4 : ¬ fn.body = none := fun e => by rw [e] at h3; cases h3
  simp [callFunc, h1, h2, h4]
theorem Does.calls {P : Program} {f : Nat} {vs : Array Value} {w : World} {R : Value → World → Prop} (he : Enters P f) (h : Does P f vs w R) : Calls P f vs w fun e w' => ∃ v, e = .returned v ∧ R v w' := by
  rcases h with ⟨_, h2⟩ | ⟨v, w', h1, _⟩
  · exact h2
  · rw [he.run] at h1; cases h1

/-- May row k have moved? Only a row of elements does, and only where the result names it. -/
def movesR (k : Nat) (r : Row) (res : PV) : Bool := match r with | .cell _ => false | .row _ _ => has k res

/-- Of one call: arguments, rows handed over, result, rows handed back (the first as many as were handed over; behind them new ones). -/
def SoundAt (P : Program) (f : Nat) (args : List PV) (hin : List Row) (res : PV) (hout : List Row) : Prop :=
  hin.length ≤ hout.length ∧ ∀ (w : World) (ok : Nat → Nat → Prop) (β : Nat → Option RA) (vs : List Value),
    vs.length = args.length → (∀ (i : Nat) p v, args[i]? = some p → vs[i]? = some v → RepV w ⟨β, ok⟩ p v) →
    (∀ (k : Nat) r, hin[k]? = some r → ∃ ra, β k = some ra ∧ RepRow w ⟨β, ok⟩ r ra) → (∀ k, hin.length ≤ k → β k = none) →
    (∀ k k' b c s l c' s' l', β k = some (.blk b c s l) → β k' = some (.blk b c' s' l') → k = k') → (∀ b, onB β b → b < w.heap.size) →
    (∀ b o, ok b o → b < w.heap.size ∧ ¬ onB β b) →
    Does P f vs.toArray w fun v w' => ∃ β',
      RepV w' ⟨β', fun b o => ok b o ∨ (w.heap.size ≤ b ∧ b < w'.heap.size ∧ ¬ onB β' b)⟩ res v ∧
      (∀ (k : Nat) r, hout[k]? = some r → ∃ ra, β' k = some ra ∧ RepRow w' ⟨β', fun b o => ok b o ∨ (w.heap.size ≤ b ∧ b < w'.heap.size ∧ ¬ onB β' b)⟩ r ra) ∧
      (∀ k, hout.length ≤ k → β' k = none) ∧
      (∀ k k' b c s l c' s' l', β' k = some (.blk b c s l) → β' k' = some (.blk b c' s' l') → k = k') ∧
      (∀ k b c s l, β' k = some (.blk b c s l) → (w.heap.size ≤ b ∨ ∃ c s l, β k = some (.blk b c s l)) ∧ b < w'.heap.size) ∧
      (∀ (k : Nat) r, hin[k]? = some r → movesR k r res = false → β' k = β k) ∧
      Keeps w w' (onB β)

end Go.Vai

/- What one operation, and a region of operations, does to a pure state. No condition. -/
namespace Go.Vai

def okC : PV → Bool
  | .bad => false | .nils => false | .agg _ => false | .tup _ => false | _ => true
/-- What may be stored: cells. -/
def okV : PV → Bool
  | .agg _ => true
  | p => okC p

def rowLen (st : St) : PV → Option Int
  | .xs k none => (match st.H k with | some (.row _ es) => some es.length | _ => none)
  | p => lenP p

def lenK (q : TK) (st : St) (p : PV) : Option Int := match q with
  | .string => (match p with | .s (.string b) => some b.size | _ => none)
  | .slice => (match p with | .s _ => none | p => rowLen st p)
  | _ => none

def fnNil (op : BinOp) (x y : PV) : Option Bool := match op with
  | .eql => (match x, y with | .s .nilFunc, .s .nilFunc => some true | .clo _ _, .s .nilFunc => some false | .s (.func _ _ _), .s .nilFunc => some false | _, _ => none)
  | .neq => (match x, y with | .s .nilFunc, .s .nilFunc => some false | .clo _ _, .s .nilFunc => some true | .s (.func _ _ _), .s .nilFunc => some true | _, _ => none)
  | _ => none

/-- Rows that arguments name are handed out as data. -/
def pubArgs : Nat → List PV → St → (List PV → St → Prop) → Prop
  | 0, _, _, _ => False
  | n + 1, args, st, K => match idA args with
    | none => K args st
    | some k => match Nat.ble 100 k, st.H k with
      | true, some (.row sz es) => pubArgs n (args.map (Vai.pub k sz es)) (st.drop k (Vai.pub k sz es) (pubR k sz es)) K
      | _, _ => False

def setRows (H : Nat → Option Row) (ks : List Nat) : List Nat → List Row → Nat → Option Row
  | [], _ => H
  | _, [] => H
  | k :: r, x :: rs => upd (setRows H ks r rs) k (some (renR ks x))
def killRows (res : PV) (st : St) : List Nat → List Row → Nat → St
  | [], _, _ => st
  | _, [], _ => st
  | k :: r, x :: rs, i => match movesR i x res with
    | true => killRows res (st.kill k) r rs (i + 1)
    | false => killRows res st r rs (i + 1)
/-- May a row be laid elsewhere? -/
def mayMv (Γ : Ctx) (j : Nat) : Bool := Nat.ble 100 j || Γ.mv j
def rowsAre (H : Nat → Option Row) (ks : List Nat) : List Nat → List Row → Prop
  | [], [] => True
  | k :: r, x :: rs => H k = some (renR ks x) ∧ rowsAre H ks r rs
  | _, _ => False
def ltAll (n : Nat) (l : List Nat) : Bool := l.all fun k => Nat.blt k n
def distinct : List Nat → Bool
  | [] => true
  | k :: r => !(r.any fun j => Nat.beq j k) && distinct r
/-- No value, no row names a row beyond those that are handed over. -/
def maxId0 (n : Nat) : PV → Bool
  | .xs j _ => Nat.blt j n
  | .ptr j _ _ => Nat.blt j n
  | .bad => false
  | .nils => false
  | _ => true
def maxId1 (n : Nat) : PV → Bool
  | .clo _ cs => cs.all (maxId0 n)
  | p => maxId0 n p
def maxId2 (n : Nat) : PV → Bool
  | .agg cs => cs.all (maxId1 n)
  | .tup _ => false
  | p => maxId1 n p
def maxIdT (n : Nat) : PV → Bool
  | .tup vs => vs.all (maxId2 n)
  | p => maxId2 n p
def maxIdR (n : Nat) : Row → Bool
  | .cell cs => cs.all (maxId1 n)
  | _ => true

def movOk (Γ : Ctx) (res : PV) : List Nat → List Row → Nat → Bool
  | [], _, _ => true
  | _, [], _ => true
  | k :: r, x :: rs, i => (!movesR i x res || mayMv Γ k) && movOk Γ res r rs (i + 1)

def callW (Γ : Ctx) (g : Nat) (args : List PV) (d : Option Nat) (st : St) (k : St → Prop) : Prop :=
  match Γ.hf g with
  | false => pubArgs 9 args st fun args st => match bareA args with
    | false => False
    | true => ∃ res hout, SoundAt Γ.P g (demL2 args) [] res hout ∧ match hout with
      | [] => (match bareT res with | true => st.putF d res k | false => False)
      | [r] => (match d with
        | none => False
        | some d => (match maxIdT 1 res && maxIdR 1 r with | true => force (ren [lid d] res) fun p => k (st.new d (renR [lid d] r) p) | false => False))
      | _ => False
  | true => ∃ ks args' hin res hout, (demL2 args = args'.map (ren2 ks) ∧ movOk Γ res ks hin 0 = true ∧ distinct ks = true ∧ rowsAre st.H ks ks hin ∧ hout.length = hin.length ∧
      args'.all (maxId2 ks.length) = true ∧ hin.all (maxIdR ks.length) = true ∧ maxIdT ks.length res = true ∧ hout.all (maxIdR ks.length) = true) ∧
      SoundAt Γ.P g args' hin res hout ∧
      let st1 := killRows res st ks hin 0
      force (ren ks res) fun p => k ⟨(match d with | some d => upd st1.fr d p | none => st1.fr), setRows st1.H ks ks hout⟩

def bytesP (b : ByteArray) : List (List PV) := b.data.toList.map fun c => [.s (.int .u8 c.toNat)]

/-- The elements that are appended. -/
def srcEs (st : St) : PV → Option (List (List PV))
  | .slc _ es _ => some es
  | .s (.string b) => some (bytesP b)
  | .xs k none => (match st.H k with | some (.row _ es) => some es | _ => none)
  | .xs k (some (lo, n)) => (match st.H k with | some (.row _ es) => some ((es.drop lo).take n) | _ => none)
  | _ => none
def appE (es ys : List (List PV)) : List (List PV) := match es with | [] => ys | e :: r => (e :: r) ++ ys

def isSeq (T : Nat → Option Ty) (t : Nat) : Bool := match T t with | some ty => (match ty.kind with | .slice => true | .string => true | _ => false) | none => false
def isSli (T : Nat → Option Ty) (t : Nat) : Option Ty := match T t with | some ty => (match ty.kind with | .slice => some ty | _ => none) | none => none

def appW (Γ : Ctx) (t t2 : Nat) (x y : PV) (d : Option Nat) (st : St) (k : St → Prop) : Prop :=
  match isSli Γ.T t, isSeq Γ.T t2, srcEs st y, d with
  | some ty, true, some ys, some d => match x with
    | .xs j none => (match st.H j with
      | some (.row sz es) => (match mayMv Γ j && Nat.beq sz ty.el with
        | true => ((∀ (i : Nat) e, ys[i]? = some e → e.length = ty.el) ∧ es.length + ys.length ≤ 1073741824) ∧ (let st1 := st.kill j; k ⟨upd st1.fr d (.xs j none), upd st1.H j (some (.row sz (appE es ys)))⟩)
        | false => False)
      | _ => False)
    | .slc sz es true => (match Nat.beq sz ty.el with
      | true => ((∀ (i : Nat) e, ys[i]? = some e → e.length = ty.el) ∧ (es = [] ∨ ys ≠ []) ∧ es.length + ys.length ≤ 1073741824) ∧ k (st.new d (.row sz (appE es ys)) (.xs (lid d) none))
      | false => False)
    | _ => False
  | _, _, _, _ => False

def oneS (v : Value) (k : PV → Prop) : Prop := match v with
  | .agg _ => False
  | .tuple _ => False
  | .slice _ _ _ => False
  | v => k (.s v)

def valsOf : List PV → Option (List Value)
  | [] => some []
  | .s v :: r => (match valsOf r with | some vs => some (v :: vs) | none => none)
  | _ :: _ => none

def frzAll : List PV → St → (List PV → St → Prop) → Prop
  | [], st, K => K [] st
  | .ptr j i off :: r, st, K => (match Nat.beq i 0 && Nat.beq off 0 && Nat.ble 100 j && !(r.any (has0 j)) with
    | false => False
    | true => (match st.H j with
      | some (.cell cs) => (match cs.all isD with
        | true => frzAll r (st.drop j (Vai.frz j cs) (frzR j cs)) fun r' st' => K (.ept cs :: r') st'
        | false => False)
      | _ => False))
  | .ept cs :: r, st, K => frzAll r st fun r' st' => K (.ept cs :: r') st'
  | _, _, _ => False

def intOf? : PV → Option Int
  | .s (.int _ i) => some i
  | _ => none

def cutE (es : List (List PV)) (l : Nat) (h : Option Nat) : List (List PV) := match l, h with
  | 0, none => es | 0, some h => es.take h | l, none => es.drop l | l, some h => (es.drop l).take (h - l)

def cutW (lo hi : Option PV) (len : Int) (k : Nat → Option Nat → Prop) : Prop := match lo, hi with
  | none, none => k 0 none
  | none, some h => (match h with | .s (.int _ h) => (0 ≤ h ∧ h ≤ len) ∧ k 0 (some h.toNat) | _ => False)
  | some l, none => (match l with | .s (.int _ l) => (0 ≤ l ∧ l ≤ len) ∧ k l.toNat none | _ => False)
  | some l, some h => (match l, h with | .s (.int _ l), .s (.int _ h) => (0 ≤ l ∧ l ≤ h ∧ h ≤ len) ∧ k l.toNat (some h.toNat) | _, _ => False)

/-- Bools held against each other. -/
def boolEq (op : BinOp) (p q : PV) : Option Bool := match op, p, q with
  | .eql, .s (.bool a), .s (.bool b) => some (a == b)
  | .neq, .s (.bool a), .s (.bool b) => some (!(a == b))
  | _, _, _ => none

def opW (Γ : Ctx) (o : Oper) (st : St) (k : St → Prop) : Prop :=
  match o.op with
  | .move x => st.putF o.dst (typed Γ.T o.type (st.ev x)) k
  | .assign x => st.putF o.dst (typed Γ.T o.type (st.ev x)) k
  | .pick c a b => match st.ev c with
    | .s (.bool v) => brP v (st.putF o.dst (typed Γ.T o.type (st.ev a)) k) (st.putF o.dst (typed Γ.T o.type (st.ev b)) k)
    | _ => False
  | .alloc t => match o.dst, Γ.T t with
    | some d, some ty => k (st.new d (.cell ty.zero) (.ptr (lid d) 0 0))
    | _, _ => False
  | .box t x => match o.dst with
    | some d => force (typed Γ.T t (st.ev x)) fun p => (match okV p && !(has (lid d) p) with
      | true => k (st.new d (.cell (cellsOf p)) (.ptr (lid d) 0 0))
      | false => False)
    | none => False
  | .build t parts => match Γ.T t with
    | some ty => match ty.kind with
      | .struct => (match parts.toList.all (fun p => okV (st.ev p.2)) with | true => fillP (fun i => ty.flds[i]?) ty.zero (parts.toList.map fun p => (p.1, cellsOf (st.ev p.2))) fun cs => st.putF o.dst (.agg cs) k | false => False)
      | .array _ => (match parts.toList.all (fun p => okV (st.ev p.2)) with | true => fillP (fun i => some (i * ty.el, ty.el)) ty.zero (parts.toList.map fun p => (p.1, cellsOf (st.ev p.2))) fun cs => st.putF o.dst (.agg cs) k | false => False)
      | _ => False
    | none => False
  | .buildSlice t len parts => match Γ.T t, o.dst with
    | some ty, some d => (match ty.kind with
      | .slice => (match Nat.ble (len * ty.el) 16777216 with
        | false => False
        | true => litEs (parts.toList.map fun p => (p.1, st.ev p.2)) ty.el len 0 fun es => (match Γ.mt d with
          | false => st.putF (some d) (.slc ty.el es true) k
          | true => k (st.new d (.row ty.el es) (.xs (lid d) none))))
      | _ => False)
    | _, _ => False
  | .load t a => match Γ.T t with
    | some ty => (match st.ev a with
      | .ptr j i off => (match st.H j with
        | some (.cell cs) => (match Nat.beq i 0 && Nat.ble (off + ty.size) cs.length with
          | true => st.putF o.dst (ofCells ty.agg ((cs.drop off).take ty.size)) k
          | false => False)
        | some (.row _ es) => ∃ e, es[i]? = some e ∧ (match Nat.ble (off + ty.size) e.length with
          | true => st.putF o.dst (ofCells ty.agg ((e.drop off).take ty.size)) k
          | false => False)
        | none => False)
      | .ept cs => (match Nat.ble ty.size cs.length with
        | true => st.putF o.dst (ofCells ty.agg (cs.take ty.size)) k
        | false => False)
      | _ => False)
    | none => False
  | .store t a v => match Γ.T t with
    | some ty => (match st.ev a with
      | .ptr j i off => (match st.H j with
        | some (.cell cs) => force (typed Γ.T t (st.ev v)) fun p => (match okV p && Nat.beq i 0 && Nat.beq (cellsOf p).length ty.size && Nat.ble (off + ty.size) cs.length with
          | true => forceL (setCells cs off (cellsOf p)) fun cs' => k (st.setH j (.cell cs'))
          | false => False)
        | some (.row sz es) => force (typed Γ.T t (st.ev v)) fun p => (match (cellsOf p).all isD && Nat.beq off 0 && Nat.beq (cellsOf p).length ty.size && Nat.beq ty.size sz with
          | true => i < es.length ∧ k (st.setH j (.row sz (es.set i (cellsOf p))))
          | false => False)
        | none => False)
      | _ => False)
    | none => False
  | .nilCheck x => match st.ev x with
    | .ptr a b c => k (st.put o.dst (.ptr a b c))
    | .ept cs => k (st.put o.dst (.ept cs))
    | .clo f cs => k (st.put o.dst (.clo f cs))
    | .s (.func (.func f) a b) => k (st.put o.dst (.s (.func (.func f) a b)))
    | _ => False
  | .binOp op t x y _ => match fnNil op (st.ev x) (st.ev y) with
    | some b => (match Γ.T t with | some ty => (match ty.kind with | .func => k (st.put o.dst (bv b)) | _ => False) | none => False)
    | none => (match boolEq op (st.ev x) (st.ev y) with
      | some b => (match Γ.T t with | some ty => (match ty.kind with | .bool => k (st.put o.dst (bv b)) | _ => False) | none => False)
      | none => (match st.ev x, st.ev y with
        | .s a, .s b => semW (do eqGuard op t x y a b; Go.binOp op t a b) fun v => oneS v fun p => st.putF o.dst p k
        | _, _ => False))
  | .unOp op _ x => match st.ev x with
    | .s v => semW (Op.unary op v) fun v => oneS v fun p => st.putF o.dst p k
    | _ => False
  | .convert src dst x => match Γ.T dst, Γ.T src with
    | some ty, some _ => (match ty.kind, st.ev x with
      | .int q, .s (.int _ n) => k (st.put o.dst (.s (.int q (q.wrap n))))
      | .float q, .s (.int _ n) => k (st.put o.dst (.s (.float q (q.nearest n))))
      | .string, .s (.string b) => k (st.put o.dst (.s (.string b)))
      | _, _ => False)
    | _, _ => False
  | .makeFunc fn first captured => match fn, first.toList, captured.toList.map st.ev with
    | .func g, [], [] => k (st.put o.dst (fnv g))
    | .func g, [], c :: cs => frzAll (c :: cs) st fun caps st' => k (st'.put o.dst (.clo g caps))
    | _, _, _ => False
  | .slice t x lo hi mx => match mx, Γ.T t with
    | none, some ty => (match ty.kind, st.ev x with
      | .string, .s (.string b) => cutW (lo.map st.ev) (hi.map st.ev) b.size fun l h => k (st.put o.dst (.s (.string (b.extract l (h.getD b.size)))))
      | .slice, .slc sz es _ => (match Nat.beq sz ty.el with
        | true => cutW (lo.map st.ev) (hi.map st.ev) es.length fun l h => k (st.put o.dst (.slc sz (cutE es l h) false))
        | false => False)
      | .slice, .xs j none => (match st.H j, o.dst with
        | some (.row sz es), some d => (match Nat.beq sz ty.el with
          | true => cutW (lo.map st.ev) (hi.map st.ev) es.length fun l h => (match Γ.mt d with
            | true => (match mayMv Γ j, l, h with
              | true, 0, some h => (let st1 := st.kill j; k ⟨upd st1.fr d (.xs j none), upd st1.H j (some (.row sz (es.take h)))⟩)
              | _, _, _ => False)
            | false => k (st.put o.dst (.xs j (some (l, (h.getD es.length) - l)))))
          | false => False)
        | _, _ => False)
      | _, _ => False)
    | _, _ => False
  | .fieldAddr s x f => match Γ.T s with
    | some ty => (match ty.kind, ty.flds[f]? with
      | .struct, some (off, _) => (match st.ev x with
        | .ptr j i o0 => k (st.put o.dst (.ptr j i (o0 + off)))
        | .ept cs => forceL (cs.drop off) fun cs' => k (st.put o.dst (.ept cs'))
        | _ => False)
      | _, _ => False)
    | none => False
  | .indexAddr t x ix => match Γ.T t with
    | some ty => (match ty.kind, st.ev ix with
      | .slice, .s (.int _ i) => (match st.ev x with
        | .slc sz es _ => (match Nat.beq sz ty.el with | true => 0 ≤ i ∧ ∃ c, es[i.toNat]? = some c ∧ forceL c fun c' => k (st.put o.dst (.ept c')) | false => False)
        | .xs j none => (match st.H j with
          | some (.row sz es) => (match Nat.beq sz ty.el with | true => (0 ≤ i ∧ i < es.length) ∧ k (st.put o.dst (.ptr j i.toNat 0)) | false => False)
          | _ => False)
        | .xs j (some (lo, n)) => (match st.H j with
          | some (.row sz _) => (match Nat.beq sz ty.el with | true => (0 ≤ i ∧ i < n) ∧ k (st.put o.dst (.ptr j (lo + i.toNat) 0)) | false => False)
          | _ => False)
        | _ => False)
      | .array n, .s (.int _ i) => (match st.ev x with
        | .ptr j q off => (0 ≤ i ∧ i < n) ∧ k (st.put o.dst (.ptr j q (off + i.toNat * ty.el)))
        | _ => False)
      | _, _ => False)
    | none => False
  | .index t x ix => match Γ.T t with
    | some ty => (match ty.kind, st.ev x, st.ev ix with
      | .array n, .agg cs, .s (.int _ i) => (0 ≤ i ∧ i < n) ∧ ∃ c, (cs.drop (i.toNat * ty.el)).take ty.el = c ∧ (match Nat.beq c.length ty.el with | true => st.putF o.dst (ofCells (Nat.blt 1 ty.el) c) k | false => False)
      | .string, .s (.string b), .s (.int _ i) => 0 ≤ i ∧ ∃ c : UInt8, b.data.toList[i.toNat]? = some c ∧ k (st.put o.dst (.s (.int .u8 c.toNat)))
      | _, _, _ => False)
    | none => False
  | .extract t i => match st.ev t with
    | .tup vs => (match vs[i]? with | some p => st.putF o.dst p k | none => False)
    | _ => False
  | .call c => match c.callee with
    | .builtin b => (match b with
      | .len => (match c.argTypes.toList, evs st Γ.T c.args.toList c.argTypes.toList with
        | [t], [x] => (match Γ.T t with
          | some ty => (match lenK ty.kind st x with | some n => k (st.put o.dst (iv n)) | none => False)
          | none => False)
        | _, _ => False)
      | .append => (match c.argTypes.toList, evs st Γ.T c.args.toList c.argTypes.toList with
        | t :: t2 :: _, [x, y] => appW Γ t t2 x y o.dst st k
        | _, _ => False)
      | .complex => (match valsOf (c.args.toList.map st.ev) with | some vs => semW (Builtin.complex_ c.argTypes o.type vs.toArray) fun v => oneS v fun p => st.putF o.dst p k | none => False)
      | .real => (match valsOf (c.args.toList.map st.ev) with | some vs => semW (Builtin.real_ c.argTypes o.type vs.toArray) fun v => oneS v fun p => st.putF o.dst p k | none => False)
      | .imag => (match valsOf (c.args.toList.map st.ev) with | some vs => semW (Builtin.imag_ c.argTypes o.type vs.toArray) fun v => oneS v fun p => st.putF o.dst p k | none => False)
      | .max => (match valsOf (c.args.toList.map st.ev) with | some vs => semW (Builtin.max_ c.argTypes o.type vs.toArray) fun v => oneS v fun p => st.putF o.dst p k | none => False)
      | .clear => (match c.argTypes.toList, evs st Γ.T c.args.toList c.argTypes.toList, o.dst with
        | [t], [.xs j (some (lo, n))], none => (match st.H j with
          | some (.row sz es) => ∃ e tye, Γ.P.underlying t = some (.slice e) ∧ Γ.T e = some tye ∧ (match Nat.beq sz tye.size with
            | true => k (st.setH j (.row sz (es.take lo ++ (List.replicate n tye.zero ++ es.drop (lo + n)))))
            | false => False)
          | _ => False)
        | _, _, _ => False)
      | _ => False)
    | .value f => (match st.ev f with
      | .s (.func (.func g) fi ca) => (match fi.toList, ca.toList with | [], [] => callW Γ g (evs st Γ.T c.args.toList c.argTypes.toList) o.dst st k | _, _ => False)
      | .clo g caps => callW Γ g (evs st Γ.T c.args.toList c.argTypes.toList ++ caps) o.dst st k
      | _ => False)
    | _ => False
  | _ => False

/-- Is operation i asked by a guard? Then its value parts the ways at once. -/
def isG (all : List Oper) (i : Nat) : Bool := all.any fun o => match o.guard with | some (j, _) => Nat.beq j i | none => false
def partB (all : List Oper) (i : Nat) (d : Option Nat) (st : St) (k : St → Prop) : Prop := match isG all i with
  | false => k st
  | true => match d with
    | none => k st
    | some d => match st.fr d with
      | .s (.bool b) => brP b (k ⟨upd st.fr d (bv true), st.H⟩) (k ⟨upd st.fr d (bv false), st.H⟩)
      | _ => k st
def guardW (all : List Oper) (o : Oper) (st : St) (k : Bool → Prop) : Prop :=
  match o.guard with
  | none => k true
  | some (j, want) => match (all[j]?).bind (·.dst) with
    | none => False
    | some d => match st.fr d with
      | .s (.bool b) => match b with
        | true => match want with | true => k true | false => k false
        | false => match want with | true => k false | false => k true
      | .tup [] => k false
      | _ => False

def opsW (Γ : Ctx) (all : List Oper) : List Oper → Nat → St → (St → Prop) → Prop
  | [], _, st, k => k st
  | o :: rest, i, st, k => guardW all o st fun on => match on with
    | true => opW Γ o st fun st2 => partB all i o.dst st2 fun st3 => opsW Γ all rest (i + 1) st3 k
    | false => opsW Γ all rest (i + 1) (st.put o.dst (.tup [])) k

inductive Out where
  | normal (st : St)
  | exit (id : Nat) (st : St)
  | ret (st : St)
  | goto (l : Nat) (st : St)

def Out.st : Out → St
  | .normal st => st | .exit _ st => st | .ret st => st | .goto _ st => st
def Out.is : Out → Exit → Prop
  | .normal _, e => e = .normal | .exit id _, e => e = .exit id | .ret _, e => e = .ret | .goto l _, e => e = .goto l

end Go.Vai

/- Steps of the world and of the pure state, side by side. No condition. -/
namespace Go.Vai

theorem upd_at {α : Type} (f : Nat → α) (i : Nat) (v : α) (j : Nat) : upd f i v j = if j = i then v else f j := by
  unfold upd
  cases h : Nat.beq j i with
  | true => rw [if_pos (Nat.eq_of_beq_eq_true h)]
  | false => rw [if_neg (Nat.ne_of_beq_eq_false h)]
theorem upd_self {α : Type} {f : Nat → α} {i : Nat} {v : α} (h : f i = v) : upd f i v = f := by
  funext j
  rw [upd_at]
  split
  · rename_i hj; rw [hj, h]
  · rfl

/-! ### Types -/
def zval : PV → Value
  | .s v => v
  | .slc _ [] true => .slice none 0 0
  | _ => undef
def zok : PV → Bool
  | .s v => v.oneCell'
  | .slc _ [] true => true
  | _ => false
def isAggD : TypeDesc → Bool
  | .struct _ => true | .array _ _ => true | _ => false

def KindOk (P : Program) (t : Nat) (ty : Ty) : Prop := match ty.kind with
  | .struct => ∃ fs, P.underlying t = some (.struct fs) ∧ (fs.toList.map fun f => (f.offset, (P.info? f.type).map (·.size))) = ty.flds.map (fun x => (x.1, some x.2)) ∧ ty.flds.all (fun x => Nat.blt 0 x.2) = true
  | .slice => ∃ e ez, P.underlying t = some (.slice e) ∧ (P.info? e).map (fun i => (i.size, i.bytes, i.zero.map fun z => z.cells.toList)) = some (ty.el, ty.eb, some ez) ∧ ez.length = ty.el ∧ (ez.all Value.oneCell') = true ∧ Nat.blt 0 ty.el = true ∧ Nat.ble ty.eb 1024 = true
  | .array n => ∃ e, P.underlying t = some (.array n e) ∧ (P.info? e).map (·.size) = some ty.el ∧ (P.underlying e).map isAggD = some (Nat.blt 1 ty.el) ∧ Nat.blt 0 ty.el = true
  | .int q => P.underlying t = some (.int q)
  | .float q => P.underlying t = some (.float q)
  | .string => P.underlying t = some .string
  | .bool => P.underlying t = some .bool
  | .func => ∃ a b c, P.underlying t = some (.func a b c)
  | .other => True

structure TyOk (P : Program) (t : Nat) (ty : Ty) : Prop where
  info : (P.info? t).map (fun i => (i.size, i.zero.map fun z => z.cells.toList)) = some (ty.size, some (ty.zero.map zval))
  zok : ty.zero.all zok = true
  zlen : Nat.beq ty.zero.length ty.size = true
  agg : (P.underlying t).map isAggD = some ty.agg
  one : ty.agg = false → ty.size = 1
  kind : KindOk P t ty

structure Ctx.Ok (Γ : Ctx) : Prop where
  ty : ∀ t ty, Γ.T t = some ty → TyOk Γ.P t ty

section
variable {P : Program} {w : World}
theorem run_und {t : Nat} {d : TypeDesc} (h : P.underlying t = some d) : (underlying t).run P w = .ok d w := by simp [underlying, h]
theorem run_sizeOf {t n : Nat} (h : (P.info? t).map (·.size) = some n) : (sizeOf t).run P w = .ok n w := by
  cases hi : P.info? t with
  | none => simp [hi] at h
  | some i => simp [hi] at h; simp [sizeOf, typeInfo, hi, h]
theorem TyOk.size {t : Nat} {ty : Ty} (h : TyOk P t ty) : (sizeOf t).run P w = .ok ty.size w := by
  refine run_sizeOf ?_
  have := h.info
  cases hi : P.info? t with
  | none => simp [hi] at this
  | some i => simp [hi] at this ⊢; exact this.1
theorem TyOk.run_zero {t : Nat} {ty : Ty} (h : TyOk P t ty) : ∃ z, (zeroValue t).run P w = .ok z w ∧ z.cells.toList = ty.zero.map zval := by
  have := h.info
  cases hi : P.info? t with
  | none => simp [hi] at this
  | some i =>
    simp [hi] at this
    obtain ⟨_, z, h1, h2⟩ := this
    exact ⟨z, by simp [zeroValue, typeInfo, hi, h1], by simpa using h2⟩
theorem TyOk.run_isAgg {t : Nat} {ty : Ty} (h : TyOk P t ty) : (isAgg t).run P w = .ok ty.agg w := by
  have := h.agg
  cases hu : P.underlying t with
  | none => simp [hu] at this
  | some d =>
    simp [hu] at this
    rw [← this]
    cases d <;> simp [isAgg, run_und hu, isAggD]
theorem add_none (b o j : Nat) : (⟨b, o, none⟩ : Addr).add j = ⟨b, o + j, none⟩ := by
  unfold Addr.add; split
  · rename_i h; rw [h]; rfl
  · rfl

def mkV (ag : Bool) (us : List Value) : Value := match ag with | true => .agg us.toArray | false => us.headD undef
/-- A variable is loaded out of its cells. -/
theorem run_loadVar {t : Nat} {ty : Ty} (h : TyOk P t ty) {b o : Nat} {us : List Value} (hl : us.length = ty.size) (hc : ∀ (j : Nat) u, us[j]? = some u → w.cell? ⟨b, o + j, none⟩ = some u) :
    (loadVar t ⟨b, o, none⟩).run P w = .ok (mkV ty.agg us) w := by
  cases ha : ty.agg with
  | true =>
    have h1 := run_loadCells_list (P := P) w ⟨b, o, none⟩ us (fun j v hj => by rw [add_none]; exact hc j v hj)
    simp [loadVar, h.run_isAgg, ha, h.size, ← hl, h1, mkV]
  | false =>
    have h1 := h.one ha
    match us, hl with
    | [u], _ =>
      have := hc 0 u rfl
      rw [Nat.add_zero] at this
      simp [loadVar, h.run_isAgg, ha, run_load, this, mkV]
    | [], hl => simp [h1] at hl
    | _ :: _ :: _, hl => simp [h1] at hl
end

/-! ### The frame -/
section
variable {Γ : Ctx} {E : Env} {β : Nat → Option RA} {st : St} {a : Act} {w : World}

theorem RepS.put (h : RepS Γ E β st a w) {d : Option Nat} {p : PV} {v : Value} (hv : RepV w (E.cx β w) p v) (hdn : ∀ x, d = some x → x < Γ.N) : RepS Γ E β (st.put d p) (a.put d v) w := by
  cases d with
  | none => exact h
  | some d =>
    have hdN := hdn d rfl
    refine { h with size := by simpa [Act.put] using h.size, oth := h.oth.grown rfl (Nat.le_refl _) (fun _ _ _ => rfl) (fun _ _ h => h), frv := fun s u hu => ?_, hp := h.hp }
    show RepV w (E.cx β w) (upd st.fr d p s) u
    rw [upd_at]
    unfold Env.val at hu
    by_cases hs : d = s
    · subst hs
      rw [if_pos hdN] at hu
      simp only [Act.put, Array.getElem?_setIfInBounds, if_true] at hu
      rw [if_pos rfl]
      split at hu
      · cases hu; exact hv
      · cases hu
    · rw [if_neg (fun e => hs e.symm)]
      refine h.frv s u ?_
      unfold Env.val
      by_cases hsN : s < Γ.N
      · rw [if_pos hsN] at hu ⊢
        simp only [Act.put, Array.getElem?_setIfInBounds] at hu
        rw [if_neg hs] at hu
        exact hu
      · rw [if_neg hsN] at hu ⊢
        exact hu

theorem repV_s (w : World) (cx : Cx) {v : Value} (h : v.oneCell' = true) : RepV w cx (.s v) v := RepD.s v h

theorem repV_ofVal (w : World) (cx : Cx) (v : Value) : RepV w cx (ofVal v) v := by
  unfold ofVal
  split
  · exact rfl
  · trivial
  · trivial
  · trivial
  · rename_i h1 h2 h3 h4
    refine RepD.s v ?_
    cases v <;> first | rfl | exact absurd rfl (h3 _) | exact absurd rfl (h4 _)

def okOpd (N : Nat) : Operand → Bool
  | .tmp t => Nat.blt t N
  | _ => true

theorem RepS.ev (h : RepS Γ E β st a w) {x : Operand} (hx : okOpd Γ.N x = true) : RepV w (E.cx β w) (st.ev x) (a.eval x) := by
  cases x with
  | tmp t =>
    have ht : t < a.tmps.size := by rw [h.size]; exact Nat.le_of_ble_eq_true hx
    have := h.fr t (a.tmps[t]) (by simp [ht])
    simpa [St.ev, Act.eval, ht] using this
  | const v => exact repV_ofVal _ _ v
  | global g => trivial
  | func f => exact RepD.s _ rfl

theorem repV_typed {cx : Cx} {T : Nat → Option Ty} {t : Nat} {p : PV} {v : Value} (h : RepV w cx p v) : RepV w cx (typed T t p) v := by
  unfold typed
  split
  · split
    · rename_i ty _
      have hv : v = .slice none 0 0 := h
      subst hv
      exact RepD.slc ty.el [] true none 0 (fun _ _ => undef) (Nat.le_refl _) (fun _ => rfl) (fun i e he => by simp at he) (fun hn => absurd rfl hn) (fun i j e p he => by simp at he)
    · trivial
  · exact h

/-- A draw. -/
theorem RepS.drew (h : RepS Γ E β st a w) (n : Nat) : RepS Γ E β st a { w with drawn := n } :=
  have hm : Move w { w with drawn := n } (E.cx β w) (E.cx β { w with drawn := n }) := ⟨fun b o v h1 h2 => ⟨h1, h2⟩⟩
  { size := h.size, oth := h.oth.grown rfl (Nat.le_refl _) (fun _ _ _ => rfl) (fun _ _ h => h), frv := fun s v hv => RepV.mono hm (fun _ _ => rfl) (h.frv s v hv),
    hp := fun k r hr => by
      obtain ⟨ra, h1, h2⟩ := h.hp k r hr
      exact ⟨ra, h1, RepRow.mono hm (fun _ _ => rfl) (fun _ _ _ _ _ => rfl) h2⟩
    dom := h.dom, inj := h.inj, own := h.own, keeps := ⟨h.keeps.os, h.keeps.tape, h.keeps.output, h.keeps.size, h.keeps.block⟩, okb := h.okb, hbb := h.hbb, fix := h.fix, fxm := h.fxm }

theorem cx_ok_lt (h : RepS Γ E β st a w) {b o : Nat} (hb : (E.cx β w).ok b o) : b < w.heap.size := by
  rcases hb with hb | hb
  · exact Nat.lt_of_lt_of_le (h.okb b o hb).1 h.keeps.size
  · exact hb.2.1
theorem cx_ok_not (h : RepS Γ E β st a w) {b o : Nat} (hb : (E.cx β w).ok b o) : ¬ onB β b := by
  rcases hb with hb | hb
  · rintro ⟨k, c, s, l, hk⟩
    rcases (h.own k b c s l hk).1 with h1 | h1
    · exact absurd (h.okb b o hb).1 (by omega)
    · exact (h.okb b o hb).2 ⟨_, h1.2⟩
  · exact hb.2.2

theorem cell_of_heap {w w' : World} {b : Nat} (h : w'.heap[b]? = w.heap[b]?) (o : Nat) : w'.cell? ⟨b, o, none⟩ = w.cell? ⟨b, o, none⟩ := by simp [World.cell?, h]

/-- The world has grown, and of the blocks that were there at most rows' own ones have turned. -/
theorem move_grown {β' : Nat → Option RA} {w' : World} (h : RepS Γ E β st a w) (hs : w.heap.size ≤ w'.heap.size) (hh : ∀ b, b < w.heap.size → ¬ onB β b → w'.heap[b]? = w.heap[b]?)
    (hb : ∀ b, b < w.heap.size → onB β' b → onB β b) : Move w w' (E.cx β w) (E.cx β' w') := by
  refine ⟨fun b o v h1 h2 => ⟨?_, ?_⟩⟩
  · rcases h1 with h1 | ⟨h3, h4, h5⟩
    · exact .inl h1
    · exact .inr ⟨h3, by omega, fun hn => h5 (hb b h4 hn)⟩
  · rw [cell_of_heap (hh b (cx_ok_lt h h1) (cx_ok_not h h1))]
    exact h2

/-- Row k is laid anew (its elder place may be written, or left): whoever named it names it no more. -/
theorem RepS.setRow (h : RepS Γ E β st a w) (k : Nat) (r : Row) (ra : RA) {w' : World} (hos : w'.os = w.os) (htape : w'.tape = w.tape) (hout : w'.output = w.output)
    (hs : w.heap.size ≤ w'.heap.size) (hh : ∀ b, b < w.heap.size → (∀ c s l, β k ≠ some (.blk b c s l)) → w'.heap[b]? = w.heap[b]?)
    (hra : ∀ b c s l, ra = .blk b c s l → b < w'.heap.size ∧ (w.heap.size ≤ b ∨ ∃ c' s' l', β k = some (.blk b c' s' l')))
    (hfx : E.fx k = none) (hr : Move w w' (E.cx β w) (E.cx (upd β k (some ra)) w') → RepRow w' (E.cx (upd β k (some ra)) w') r ra) :
    RepS Γ E (upd β k (some ra)) ⟨(st.kill k).fr, upd (st.kill k).H k (some r)⟩ a w' := by
  have hn : ∀ j, j ≠ k → upd β k (some ra) j = β j := fun j hj => by rw [upd_at, if_neg hj]
  have hb : ∀ b, b < w.heap.size → onB (upd β k (some ra)) b → onB β b := by
    rintro b hlt ⟨j, c, s, l, hj⟩
    by_cases hjk : j = k
    · subst hjk
      rw [upd_at, if_pos rfl] at hj
      rcases (hra b c s l (by injection hj)).2 with h1 | ⟨c', s', l', h1⟩
      · omega
      · exact ⟨j, c', s', l', h1⟩
    · rw [hn j hjk] at hj
      exact ⟨j, c, s, l, hj⟩
  have hm : Move w w' (E.cx β w) (E.cx (upd β k (some ra)) w') := move_grown h hs (fun b hlt hnb => hh b hlt (fun c s l hk => hnb ⟨k, c, s, l, hk⟩)) hb
  refine { size := h.size, oth := h.oth.grown rfl hs (fun b hlt hnb => hh b hlt (fun c s l hk => hnb ⟨k, c, s, l, hk⟩)) hb, frv := fun s v hv => RepV.kill hm hn (h.frv s v hv), hp := fun j x hj => ?_, dom := fun j hj => ?_, inj := ?_, own := ?_, keeps := ⟨hos.trans h.keeps.os, htape.trans h.keeps.tape, hout.trans h.keeps.output, Nat.le_trans h.keeps.size hs, fun b hlt hnb => (hh b (Nat.lt_of_lt_of_le hlt h.keeps.size) (fun c s l hk => ?_)).trans (h.keeps.block b hlt hnb)⟩, okb := h.okb, hbb := h.hbb, fix := fun j x hx => ?_, fxm := h.fxm }
  · change upd (st.kill k).H k (some r) j = some x at hj
    rw [upd_at] at hj
    by_cases hjk : j = k
    · subst hjk
      rw [if_pos rfl] at hj
      cases hj
      exact ⟨ra, by rw [upd_at, if_pos rfl], hr hm⟩
    · rw [if_neg hjk] at hj
      change (st.H j).map (killR k) = some x at hj
      cases hx : st.H j with
      | none => rw [hx] at hj; cases hj
      | some y =>
        rw [hx] at hj
        cases hj
        obtain ⟨rb, h1, h2⟩ := h.hp j y hx
        refine ⟨rb, (hn j hjk).trans h1, RepRow.kill hm hn (fun b c s l e => ?_) h2⟩
        subst e
        exact hh b (h.own j b c s l h1).2 (fun c' s' l' hk => hjk (h.inj j k b c s l c' s' l' h1 hk))
  · change upd (st.kill k).H k (some r) j = none at hj
    rw [upd_at] at hj
    by_cases hjk : j = k
    · rw [if_pos hjk] at hj; cases hj
    · rw [if_neg hjk] at hj
      rw [hn j hjk]
      refine h.dom j ?_
      change (st.H j).map (killR k) = none at hj
      cases hx : st.H j with
      | none => rfl
      | some y => rw [hx] at hj; cases hj
  · have key : ∀ j b c s l c' s' l', j ≠ k → β j = some (.blk b c s l) → ra = .blk b c' s' l' → False := by
      intro j b c s l c' s' l' hjk h1 h2
      have h3 := (h.own j b c s l h1).2
      rcases (hra b c' s' l' h2).2 with h4 | ⟨c2, s2, l2, h4⟩
      · omega
      · exact hjk (h.inj j k b c s l c2 s2 l2 h1 h4)
    intro j j' b c s l c' s' l' h1 h2
    rw [upd_at] at h1 h2
    by_cases hj : j = k
    · by_cases hj' : j' = k
      · rw [hj, hj']
      · rw [if_pos hj] at h1
        rw [if_neg hj'] at h2
        exact (key j' b c' s' l' c s l hj' h2 (by injection h1)).elim
    · rw [if_neg hj] at h1
      by_cases hj' : j' = k
      · rw [if_pos hj'] at h2
        exact (key j b c s l c' s' l' hj h1 (by injection h2)).elim
      · rw [if_neg hj'] at h2
        exact h.inj j j' b c s l c' s' l' h1 h2
  · intro j b c s l hj
    rw [upd_at] at hj
    by_cases hjk : j = k
    · rw [if_pos hjk] at hj
      have h1 := hra b c s l (by injection hj)
      refine ⟨?_, h1.1⟩
      rcases h1.2 with h2 | ⟨c', s', l', h2⟩
      · exact .inl (Nat.le_trans h.keeps.size h2)
      · rw [hjk]; exact (h.own k b c' s' l' h2).1
    · rw [if_neg hjk] at hj
      exact ⟨(h.own j b c s l hj).1, Nat.lt_of_lt_of_le (h.own j b c s l hj).2 hs⟩
  · rcases (h.own k b c s l hk).1 with h1 | h1
    · omega
    · exact hnb ⟨_, h1.2⟩
  · obtain ⟨h1, h2⟩ := h.fix j x hx
    have hjk : j ≠ k := fun e => by rw [e, hfx] at hx; cases hx
    exact ⟨h1, (hn j hjk).trans h2⟩

/-- A row is written in its place: whoever named it names it still. -/
theorem RepS.write (h : RepS Γ E β st a w) (k : Nat) (r : Row) (ra : RA) {w' : World} (hk : β k = some ra) (hos : w'.os = w.os) (htape : w'.tape = w.tape) (hout : w'.output = w.output)
    (hs : w'.heap.size = w.heap.size) (hh : ∀ b, (∀ c s l, ra ≠ .blk b c s l) → w'.heap[b]? = w.heap[b]?)
    (hr : Move w w' (E.cx β w) (E.cx β w') → RepRow w' (E.cx β w') r ra) : RepS Γ E β ⟨st.fr, upd st.H k (some r)⟩ a w' := by
  have hm : Move w w' (E.cx β w) (E.cx β w') := move_grown h (Nat.le_of_eq hs.symm) (fun b hlt hnb => hh b (fun c s l e => hnb ⟨k, c, s, l, by rw [hk, e]⟩)) (fun b _ hb => hb)
  refine { size := h.size, oth := h.oth.grown rfl (Nat.le_of_eq hs.symm) (fun b hlt hnb => hh b (fun c s l e => hnb ⟨k, c, s, l, by rw [hk, e]⟩)) (fun b _ hb => hb), frv := fun s v hv => RepV.mono hm (fun _ _ => rfl) (h.frv s v hv), hp := fun j x hj => ?_, dom := fun j hj => ?_, inj := h.inj, own := fun j b c s l hj => ⟨(h.own j b c s l hj).1, by rw [hs]; exact (h.own j b c s l hj).2⟩, keeps := ⟨hos.trans h.keeps.os, htape.trans h.keeps.tape, hout.trans h.keeps.output, by rw [hs]; exact h.keeps.size, fun b hlt hnb => (hh b (fun c s l e => ?_)).trans (h.keeps.block b hlt hnb)⟩, okb := h.okb, hbb := h.hbb, fix := fun j x hx => ?_, fxm := h.fxm }
  · change upd st.H k (some r) j = some x at hj
    rw [upd_at] at hj
    by_cases hjk : j = k
    · subst hjk
      rw [if_pos rfl] at hj
      cases hj
      exact ⟨ra, hk, hr hm⟩
    · rw [if_neg hjk] at hj
      obtain ⟨rb, h1, h2⟩ := h.hp j x hj
      refine ⟨rb, h1, RepRow.mono hm (fun _ _ => rfl) (fun b c s l e => hh b (fun c' s' l' e' => ?_)) h2⟩
      subst e
      exact hjk (h.inj j k b c s l c' s' l' h1 (by rw [hk, e']))
  · change upd st.H k (some r) j = none at hj
    rw [upd_at] at hj
    by_cases hjk : j = k
    · rw [if_pos hjk] at hj; cases hj
    · rw [if_neg hjk] at hj
      exact h.dom j hj
  · rcases (h.own k b c s l (by rw [hk, e])).1 with h1 | h1
    · omega
    · exact hnb ⟨_, h1.2⟩
  · exact h.fix j x hx

/-! ### A row is handed out as data -/
theorem onB_drop {β : Nat → Option RA} {k b : Nat} (h : onB (upd β k none) b) : onB β b := by
  obtain ⟨j, c, s, l, hj⟩ := h
  rw [upd_at] at hj
  by_cases e : j = k
  · rw [if_pos e] at hj; cases hj
  · rw [if_neg e] at hj; exact ⟨j, c, s, l, hj⟩

theorem RepS.drop (h : RepS Γ E β st a w) (k : Nat) (f : PV → PV) (g : Row → Row) (hk : E.fx k = none)
    (hf : Move w w (E.cx β w) (E.cx (upd β k none) w) → ∀ p v, RepV w (E.cx β w) p v → RepV w (E.cx (upd β k none) w) (f p) v)
    (hg : Move w w (E.cx β w) (E.cx (upd β k none) w) → ∀ r ra, RepRow w (E.cx β w) r ra → RepRow w (E.cx (upd β k none) w) (g r) ra) :
    RepS Γ E (upd β k none) (st.drop k f g) a w := by
  have hn : ∀ j, j ≠ k → upd β k none j = β j := fun j hj => by rw [upd_at, if_neg hj]
  have hm : Move w w (E.cx β w) (E.cx (upd β k none) w) := move_grown h (Nat.le_refl _) (fun _ _ _ => rfl) (fun b _ hb => onB_drop hb)
  have hsome : ∀ j x, upd β k none j = some x → j ≠ k ∧ β j = some x := fun j x hj => by
    rw [upd_at] at hj
    by_cases e : j = k
    · rw [if_pos e] at hj; cases hj
    · rw [if_neg e] at hj; exact ⟨e, hj⟩
  have hH : ∀ j, j ≠ k → (st.drop k f g).H j = (st.H j).map g := fun j hj => by
    show (match Nat.beq j k with | true => none | false => (st.H j).map g) = _
    cases hb : Nat.beq j k with
    | true => exact absurd (Nat.eq_of_beq_eq_true hb) hj
    | false => rfl
  have hK : (st.drop k f g).H k = none := by
    show (match Nat.beq k k with | true => none | false => (st.H k).map g) = _
    rw [Nat.beq_refl]
  refine { size := h.size, oth := h.oth.grown rfl (Nat.le_refl _) (fun _ _ _ => rfl) (fun b _ hb => onB_drop hb), frv := fun s v hv => hf hm _ _ (h.frv s v hv), hp := fun j x hj => ?_, dom := fun j hj => ?_, inj := fun j j' b c s l c' s' l' h1 h2 => h.inj j j' b c s l c' s' l' (hsome j _ h1).2 (hsome j' _ h2).2, own := fun j b c s l hj => h.own j b c s l (hsome j _ hj).2, keeps := h.keeps, okb := h.okb, hbb := h.hbb, fix := fun j x hx => ?_, fxm := h.fxm }
  · by_cases hjk : j = k
    · subst hjk; rw [hK] at hj; cases hj
    · rw [hH j hjk] at hj
      cases hx : st.H j with
      | none => rw [hx] at hj; cases hj
      | some y =>
        rw [hx] at hj
        cases hj
        obtain ⟨rb, h1, h2⟩ := h.hp j y hx
        exact ⟨rb, (hn j hjk).trans h1, hg hm _ _ h2⟩
  · by_cases hjk : j = k
    · rw [hjk, upd_at, if_pos rfl]
    · rw [hn j hjk]
      rw [hH j hjk] at hj
      refine h.dom j ?_
      cases hx : st.H j with
      | none => rfl
      | some y => rw [hx] at hj; cases hj
  · obtain ⟨h1, h2⟩ := h.fix j x hx
    have hjk : j ≠ k := fun e => by rw [e, hk] at hx; cases hx
    exact ⟨h1, (hn j hjk).trans h2⟩

theorem fx_local (h : RepS Γ E β st a w) {k : Nat} (hk : 100 ≤ k) : E.fx k = none := by
  cases hx : E.fx k with
  | none => rfl
  | some x => have := (h.fix k x hx).1; omega

theorem fx_may (h : RepS Γ E β st a w) {k : Nat} (hk : mayMv Γ k = true) : E.fx k = none := by
  unfold mayMv at hk
  rw [Bool.or_eq_true] at hk
  rcases hk with hk | hk
  · exact fx_local h (Nat.le_of_ble_eq_true hk)
  · exact h.fxm k hk

section pubs
variable {cx cx' : Cx} {k sz : Nat} {es : List (List PV)} {ra : RA}

theorem pub0_ok (hm : Move w w cx cx') (hβ : ∀ j, j ≠ k → cx'.β j = cx.β j) (hk : cx.β k = some ra) (hrow : RepRow w cx (.row sz es) ra)
    (hok : ∀ b c s l o, ra = .blk b c s l → cx'.ok b o) {p : PV} {v : Value} (hp : RepC w cx p v) : RepC w cx' (pub0 k sz es p) v := by
  have hother : ∀ q : PV, RepC w cx q v → RepC w cx' (match has1 k q with | true => .bad | false => q) v := fun q hq => RepC.kill1 hm hβ hq
  have hrow' : ∀ lo n A (c : Nat), lo + n ≤ es.length → (n = 0 ∨ ∃ b cap, ra = .blk b cap sz es.length ∧ A = some ⟨b, lo * sz, none⟩) → n ≤ c → RepD w cx'.ok (.slc sz ((es.drop lo).take n) false) (.slice A n c) := by
    intro lo n A c hle hA hc
    have hlen : ((es.drop lo).take n).length = n := by simp; omega
    have hget : ∀ (i : Nat) e, ((es.drop lo).take n)[i]? = some e → es[lo + i]? = some e := fun i e he => by
      rw [List.getElem?_take] at he
      split at he
      · rw [List.getElem?_drop] at he; exact he
      · cases he
    rcases hrow with ⟨h1, h2⟩ | ⟨b, cap, us, t, h1, h2, h3, h4, h5, h6⟩
    · subst h2
      have hn : n = 0 := by simp at hle; omega
      subst hn
      have := RepD.slc (w := w) (ok := cx'.ok) sz [] false A c (fun _ _ => undef) (Nat.zero_le _) (fun e => by cases e) (fun i e he => by simp at he) (fun hn => absurd rfl hn) (fun i j e p he => by simp at he)
      simpa using this
    · have := RepD.slc (w := w) (ok := cx'.ok) sz ((es.drop lo).take n) false A c (fun i j => us.getD ((lo + i) * sz + j) undef) (by rw [hlen]; exact hc) (fun e => by cases e)
        (fun i e he => h5 _ e (hget i e he)) (fun hne => ?_) (fun i j e p he hp => ?_)
      · rwa [hlen] at this
      · have hn0 : n ≠ 0 := fun e => by subst e; exact hne (by simp)
        rcases hA with hA | ⟨b', cap', e1, e2⟩
        · exact absurd hA hn0
        · rw [h1] at e1
          injection e1 with e1 _ _ _
          subst e1
          refine ⟨b, lo * sz, e2, fun i j hi hj => ⟨hok _ _ _ _ _ h1, ?_⟩⟩
          rw [hlen] at hi
          have hin : lo * sz + (i * sz + j) < us.size := by
            rw [h3]
            have e3 : (lo + i + 1) * sz ≤ cap * sz := Nat.mul_le_mul_right _ (by omega)
            have e4 : (lo + i + 1) * sz = lo * sz + (i * sz + sz) := by rw [Nat.add_mul, Nat.add_mul]; omega
            omega
          have e5 : (lo + i) * sz + j = lo * sz + (i * sz + j) := by rw [Nat.add_mul]; omega
          simp [World.cell?, h2, e5, hin]
      · obtain ⟨u, hu, hd⟩ := h6 (lo + i) j e p (hget i e he) hp
        have : us.getD ((lo + i) * sz + j) undef = u := by simp [hu]
        rw [this]
        exact RepD.mono hm.cell hd
  cases p with
  | xs j o =>
    cases o with
    | none =>
      show RepC w cx' (match Nat.beq j k with | true => .slc sz es false | false => .xs j none) v
      cases hb : Nat.beq j k with
      | false => exact RepC.mono hm (fun i hi => hβ i (fun e => by rw [e] at hi; change Nat.beq j k = true at hi; rw [hb] at hi; cases hi)) hp
      | true =>
        have hjk := Nat.eq_of_beq_eq_true hb
        subst hjk
        obtain ⟨rb, h1, h2⟩ := hp
        rw [hk] at h1
        cases h1
        have key := hrow' 0 es.length
        rcases hrow with ⟨e1, e2⟩ | ⟨b, cap, us, t, e1, e2, e3, e4, e5, e6⟩
        · subst e1; subst e2
          obtain ⟨A, rfl⟩ := h2
          show RepD w cx'.ok _ _
          simpa using key A 0 (by simp) (.inl rfl) (Nat.le_refl _)
        · subst e1
          have h2 : v = .slice (some ⟨b, 0, none⟩) es.length cap := h2
          subst h2
          have := key (some ⟨b, 0, none⟩) cap (by omega) (.inr ⟨b, cap, rfl, by simp⟩) e4
          show RepD w cx'.ok _ _
          simpa using this
    | some q =>
      obtain ⟨lo, n⟩ := q
      show RepC w cx' (match Nat.beq j k with | true => .slc sz ((es.drop lo).take n) false | false => .xs j (some (lo, n))) v
      cases hb : Nat.beq j k with
      | false => exact RepC.mono hm (fun i hi => hβ i (fun e => by rw [e] at hi; change Nat.beq j k = true at hi; rw [hb] at hi; cases hi)) hp
      | true =>
        have hjk := Nat.eq_of_beq_eq_true hb
        subst hjk
        obtain ⟨rb, h1, h2⟩ := hp
        rw [hk] at h1
        cases h1
        have key := hrow' lo n
        rcases hrow with ⟨e1, e2⟩ | ⟨b, cap, us, t, e1, e2, e3, e4, e5, e6⟩
        · subst e1; subst e2
          obtain ⟨rfl, rfl, A, rfl⟩ := h2
          exact key A 0 (by simp) (.inl rfl) (Nat.le_refl _)
        · subst e1
          have h2 : lo + n ≤ es.length ∧ ∃ A, v = .slice A n (cap - lo) ∧ (n = 0 ∨ A = some ⟨b, lo * sz, none⟩) := h2
          obtain ⟨h3, A, rfl, h4⟩ := h2
          exact key A (cap - lo) h3 (h4.imp id (fun e => ⟨b, cap, rfl, e⟩)) (by omega)
  | s x => exact hother _ hp
  | nils => exact hother _ hp
  | slc a b c => exact hother _ hp
  | ptr a b c => exact hother _ hp
  | ept a => exact hother _ hp
  | clo a b => exact hother _ hp
  | bad => trivial
  | agg a => exact hp.elim
  | tup a => exact hp.elim

theorem repL_nil (w : World) (cx : Cx) : RepL w cx [] [] := ⟨rfl, fun i c u hc _ => by simp at hc⟩
theorem repL_cons {w : World} {cx : Cx} {p : PV} {r : List PV} {u : Value} {us : List Value} : RepL w cx (p :: r) (u :: us) ↔ (RepC w cx p u ∧ u.oneCell' = true) ∧ RepL w cx r us := by
  constructor
  · rintro ⟨h1, h2⟩
    exact ⟨h2 0 p u rfl rfl, by simpa using h1, fun i c v hc hv => h2 (i + 1) c v (by simpa using hc) (by simpa using hv)⟩
  · rintro ⟨h0, h1, h2⟩
    refine ⟨by simp [h1], fun i c v hc hv => ?_⟩
    cases i with
    | zero => simp at hc hv; subst hc; subst hv; exact h0
    | succ i => exact h2 i c v (by simpa using hc) (by simpa using hv)
/-- What holds cell by cell holds of cells in line. -/
theorem repL_map {w w' : World} {cx cx' : Cx} {f : List PV → List PV} {g : PV → PV} (h0 : f [] = []) (h1 : ∀ p r, f (p :: r) = g p :: f r) (hg : ∀ p v, RepC w cx p v → RepC w' cx' (g p) v) :
    ∀ (cs : List PV) (us : List Value), RepL w cx cs us → RepL w' cx' (f cs) us
  | [], [], _ => by rw [h0]; exact repL_nil _ _
  | [], _ :: _, h => by simp [RepL] at h
  | _ :: _, [], h => by simp [RepL] at h
  | p :: r, u :: us, h => by
    rw [h1, repL_cons]
    rw [repL_cons] at h
    exact ⟨⟨hg p u h.1.1, h.1.2⟩, repL_map h0 h1 hg r us h.2⟩
theorem rep2_map {w w' : World} {cx cx' : Cx} {F : PV → PV} {f : List PV → List PV} {g : PV → PV} (hF : ∀ cs, F (.agg cs) = .agg (f cs)) (hFo : ∀ p, (∀ cs, p ≠ .agg cs) → (∀ cs, p ≠ .tup cs) → F p = g p)
    (h0 : f [] = []) (h1 : ∀ p r, f (p :: r) = g p :: f r) (hng : ∀ p v, RepC w cx p v → RepC w' cx' (g p) v) (hna : ∀ p cs, (∀ ds, p ≠ .agg ds) → (∀ ds, p ≠ .tup ds) → g p ≠ .agg cs)
    (p : PV) (v : Value) (hp : Rep2 w cx p v) : Rep2 w' cx' (F p) v := by
  have other : (∀ cs, p ≠ .agg cs) → (∀ cs, p ≠ .tup cs) → RepC w cx p v → Rep2 w' cx' (F p) v := by
    intro h2 h3 h4
    rw [hFo p h2 h3]
    have h5 := hng p v h4
    have h6 := fun cs => hna p cs h2 h3
    cases hg : g p with
    | agg cs => exact absurd hg (h6 cs)
    | _ => rw [hg] at h5; exact h5
  cases p with
  | agg cs =>
    obtain ⟨us, e, hl⟩ := hp
    rw [hF]
    exact ⟨us, e, repL_map h0 h1 hng cs us hl⟩
  | tup a => exact hp.elim
  | s x => exact other (fun _ e => by cases e) (fun _ e => by cases e) hp
  | nils => exact other (fun _ e => by cases e) (fun _ e => by cases e) hp
  | slc a b c => exact other (fun _ e => by cases e) (fun _ e => by cases e) hp
  | xs a b => exact other (fun _ e => by cases e) (fun _ e => by cases e) hp
  | ptr a b c => exact other (fun _ e => by cases e) (fun _ e => by cases e) hp
  | ept a => exact other (fun _ e => by cases e) (fun _ e => by cases e) hp
  | clo a b => exact other (fun _ e => by cases e) (fun _ e => by cases e) hp
  | bad => exact other (fun _ e => by cases e) (fun _ e => by cases e) trivial
theorem repV_of2 {w : World} {cx : Cx} {p : PV} {v : Value} (hp : Rep2 w cx p v) : RepV w cx p v := by
  cases p <;> first | exact hp | exact hp.elim
theorem rep2_of_ne {w : World} {cx : Cx} {p : PV} {v : Value} (h : ∀ vs, p ≠ .tup vs) (hp : RepV w cx p v) : Rep2 w cx p v := by
  cases p <;> first | exact hp | exact absurd rfl (h _)
theorem repV_map {w w' : World} {cx cx' : Cx} {T : PV → PV} {F : PV → PV} {f2 : List PV → List PV} (hT : ∀ vs, T (.tup vs) = .tup (f2 vs)) (hTo : ∀ p, (∀ vs, p ≠ .tup vs) → T p = F p)
    (h0 : f2 [] = []) (h1 : ∀ p r, f2 (p :: r) = F p :: f2 r) (hF : ∀ p v, Rep2 w cx p v → Rep2 w' cx' (F p) v) (p : PV) (v : Value) (hp : RepV w cx p v) : RepV w' cx' (T p) v := by
  by_cases ht : ∃ vs, p = .tup vs
  · obtain ⟨vs, rfl⟩ := ht
    obtain ⟨us, e, hl, hx⟩ := hp
    rw [hT]
    have key : ∀ (vs : List PV) (us : List Value), us.length = vs.length → (∀ (i : Nat) c u, vs[i]? = some c → us[i]? = some u → Rep2 w cx c u) → us.length = (f2 vs).length ∧ ∀ (i : Nat) c u, (f2 vs)[i]? = some c → us[i]? = some u → Rep2 w' cx' c u := by
      intro vs
      induction vs with
      | nil => intro us hl _; rw [h0]; exact ⟨hl, fun i c u hc _ => by simp at hc⟩
      | cons p r ih =>
        intro us hl hx
        match us, hl with
        | u :: us, hl =>
          have := ih us (by simpa using hl) (fun i c v hc hv => hx (i + 1) c v (by simpa using hc) (by simpa using hv))
          rw [h1]
          refine ⟨by simp [this.1], fun i c v hc hv => ?_⟩
          cases i with
          | zero => simp at hc hv; subst hc; subst hv; exact hF _ _ (hx 0 p u rfl rfl)
          | succ i => exact this.2 i c v (by simpa using hc) (by simpa using hv)
    exact ⟨us, e, key vs us hl hx⟩
  · have h2 : ∀ vs, p ≠ .tup vs := fun vs e => ht ⟨vs, e⟩
    rw [hTo p h2]
    exact repV_of2 (hF p v (rep2_of_ne h2 hp))

theorem pub0_ne {p : PV} (h : ∀ cs, p ≠ .agg cs) (cs : List PV) : pub0 k sz es p ≠ .agg cs := by
  unfold pub0
  split <;> split <;> first | (intro e; cases e; done) | exact h cs
theorem pub_ok (hm : Move w w cx cx') (hβ : ∀ j, j ≠ k → cx'.β j = cx.β j) (hk : cx.β k = some ra) (hrow : RepRow w cx (.row sz es) ra)
    (hok : ∀ b c s l o, ra = .blk b c s l → cx'.ok b o) (p : PV) (v : Value) (hp : RepV w cx p v) : RepV w cx' (Vai.pub k sz es p) v :=
  repV_map (T := Vai.pub k sz es) (F := pub2 k sz es) (f2 := pubL2 k sz es) (fun _ => rfl) (fun p h => by cases p <;> first | rfl | exact absurd rfl (h _)) rfl (fun _ _ => rfl)
    (rep2_map (F := pub2 k sz es) (f := pubL k sz es) (g := pub0 k sz es) (fun _ => rfl) (fun p h _ => by cases p <;> first | rfl | exact absurd rfl (h _)) rfl (fun _ _ => rfl)
      (fun _ _ h => pub0_ok hm hβ hk hrow hok h) (fun _ cs h _ => pub0_ne h cs)) p v hp
theorem pubR_ok (hm : Move w w cx cx') (hβ : ∀ j, j ≠ k → cx'.β j = cx.β j) (hk : cx.β k = some ra) (hrow : RepRow w cx (.row sz es) ra)
    (hok : ∀ b c s l o, ra = .blk b c s l → cx'.ok b o) (r : Row) (rb : RA) (hr : RepRow w cx r rb) : RepRow w cx' (pubR k sz es r) rb := by
  cases r with
  | cell cs =>
    obtain ⟨b, us, t, h1, h2, h3⟩ := hr
    have h4 := repL_map (f := pubL k sz es) (g := pub0 k sz es) rfl (fun _ _ => rfl) (fun _ _ h => pub0_ok hm hβ hk hrow hok h) cs us.toList h3
    exact ⟨b, us, t, by rw [h1, ← h4.1, h3.1], h2, h4⟩
  | row s2 e2 => exact RepRow.mono hm (fun j hj => by cases hj) (fun _ _ _ _ _ => rfl) hr
end pubs

/-- Publishing a row of the call's own. -/
theorem RepS.pub (h : RepS Γ E β st a w) {k sz : Nat} {es : List (List PV)} (hk : 100 ≤ k) (hrow : st.H k = some (.row sz es)) :
    RepS Γ E (upd β k none) (st.drop k (Vai.pub k sz es) (pubR k sz es)) a w ∧
      ∀ p v, RepV w (E.cx β w) p v → RepV w (E.cx (upd β k none) w) (Vai.pub k sz es p) v := by
  obtain ⟨ra, h1, h2⟩ := h.hp k _ hrow
  have hn : ∀ j, j ≠ k → (E.cx (upd β k none) w).β j = (E.cx β w).β j := fun j hj => by show upd β k none j = β j; rw [upd_at, if_neg hj]
  have hok : ∀ b c s l o, ra = .blk b c s l → (E.cx (upd β k none) w).ok b o := by
    rintro b c s l o rfl
    have h3 := h.own k b c s l h1
    refine .inr ⟨?_, h3.2, ?_⟩
    · rcases h3.1 with h4 | h4
      · exact h4
      · omega
    · rintro ⟨j, c', s', l', hj⟩
      rw [upd_at] at hj
      by_cases e : j = k
      · rw [if_pos e] at hj; cases hj
      · rw [if_neg e] at hj
        exact e (h.inj j k b c' s' l' c s l hj h1)
  have hm : Move w w (E.cx β w) (E.cx (upd β k none) w) := move_grown h (Nat.le_refl _) (fun _ _ _ => rfl) (fun b _ hb => onB_drop hb)
  exact ⟨h.drop k _ _ (fx_local h hk) (fun hm p v hp => pub_ok hm hn h1 h2 hok p v hp) (fun hm r rb hr => pubR_ok hm hn h1 h2 hok r rb hr),
    fun p v hp => pub_ok hm hn h1 h2 hok p v hp⟩

/-! ### Captured cells that nobody writes any more -/
theorem isD_repD {cx : Cx} {p : PV} {v : Value} (h : isD p = true) (hp : RepC w cx p v) : RepD w cx.ok p v := by
  cases p <;> first | exact hp | cases h

section frzs
variable {cx cx' : Cx} {k : Nat} {cs : List PV} {ra : RA}
theorem frz0_ok (hm : Move w w cx cx') (hβ : ∀ j, j ≠ k → cx'.β j = cx.β j) (hk : cx.β k = some ra) (hrow : RepRow w cx (.cell cs) ra) (hD : cs.all isD = true)
    (hok : ∀ b c s l o, ra = .blk b c s l → cx'.ok b o) {p : PV} {v : Value} (hp : RepC w cx p v) : RepC w cx' (frz0 k cs p) v := by
  have hother : ∀ q : PV, RepC w cx q v → RepC w cx' (match has1 k q with | true => .bad | false => q) v := fun q hq => RepC.kill1 hm hβ hq
  cases p with
  | ptr j i off =>
    cases i with
    | zero =>
      show RepC w cx' (match Nat.beq j k with | true => .ept (cs.drop off) | false => .ptr j 0 off) v
      cases hb : Nat.beq j k with
      | false => exact RepC.mono hm (fun i hi => hβ i (fun e => by rw [e] at hi; change Nat.beq j k = true at hi; rw [hb] at hi; cases hi)) hp
      | true =>
        have hjk := Nat.eq_of_beq_eq_true hb
        subst hjk
        obtain ⟨rb, h1, h2⟩ := hp
        rw [hk] at h1
        cases h1
        obtain ⟨b, us, t, e1, e2, e3, e4⟩ := hrow
        subst e1
        have h2 : v = .pointer (some ⟨b, 0 * cs.length + off, none⟩) := h2
        rw [Nat.zero_mul, Nat.zero_add] at h2
        subst h2
        have e3 : us.size = cs.length := by simpa using e3
        refine RepD.ept (cs.drop off) b off (fun j => us.getD (off + j) undef) (fun j hj => ⟨hok _ _ _ _ _ rfl, ?_⟩) (fun j p hp => ?_)
        · simp at hj
          have : off + j < us.size := by omega
          simp [World.cell?, e2, this]
        · rw [List.getElem?_drop] at hp
          have hlt : off + j < us.size := by rw [e3]; exact (List.getElem?_eq_some_iff.1 hp).1
          have h5 := (e4 (off + j) p (us[off + j]) hp (by simp [hlt])).1
          have h6 : isD p = true := List.all_eq_true.1 hD p (List.mem_of_getElem? hp)
          have h7 := RepD.mono hm.cell (isD_repD h6 h5)
          simpa [hlt] using h7
    | succ i => exact hother (.ptr j (i + 1) off) hp
  | s x => exact hother _ hp
  | nils => exact hother _ hp
  | slc a b c => exact hother _ hp
  | xs a b => exact hother _ hp
  | ept a => exact hother _ hp
  | clo a b => exact hother _ hp
  | bad => trivial
  | agg a => exact hp.elim
  | tup a => exact hp.elim
theorem frz_ok (hm : Move w w cx cx') (hβ : ∀ j, j ≠ k → cx'.β j = cx.β j) (hk : cx.β k = some ra) (hrow : RepRow w cx (.cell cs) ra) (hD : cs.all isD = true)
    (hok : ∀ b c s l o, ra = .blk b c s l → cx'.ok b o) (p : PV) (v : Value) (hp : RepV w cx p v) : RepV w cx' (Vai.frz k cs p) v := by
  have key : RepC w cx p v → RepV w cx' (frz0 k cs p) v := fun h => by
    have h1 := frz0_ok hm hβ hk hrow hD hok h
    cases hf : frz0 k cs p <;> rw [hf] at h1 <;> first | exact h1 | exact h1.elim
  cases p with
  | agg a => exact RepV.kill hm hβ hp
  | tup a => exact RepV.kill hm hβ hp
  | s x => exact key hp
  | nils => exact key hp
  | slc a b c => exact key hp
  | xs a b => exact key hp
  | ptr a b c => exact key hp
  | ept a => exact key hp
  | clo a b => exact key hp
  | bad => exact key trivial
theorem frzR_ok (hm : Move w w cx cx') (hβ : ∀ j, j ≠ k → cx'.β j = cx.β j) (hk : cx.β k = some ra) (hrow : RepRow w cx (.cell cs) ra) (hD : cs.all isD = true)
    (hok : ∀ b c s l o, ra = .blk b c s l → cx'.ok b o) (r : Row) (rb : RA) (hr : RepRow w cx r rb) : RepRow w cx' (frzR k cs r) rb := by
  cases r with
  | cell ds =>
    obtain ⟨b, us, t, h1, h2, h3⟩ := hr
    have h4 := repL_map (f := frzL k cs) (g := frz0 k cs) rfl (fun _ _ => rfl) (fun _ _ h => frz0_ok hm hβ hk hrow hD hok h) ds us.toList h3
    exact ⟨b, us, t, by rw [h1, ← h4.1, h3.1], h2, h4⟩
  | row s2 e2 => exact RepRow.mono hm (fun j hj => by cases hj) (fun _ _ _ _ _ => rfl) hr
end frzs

theorem RepS.frz (h : RepS Γ E β st a w) {k : Nat} {cs : List PV} (hk : 100 ≤ k) (hrow : st.H k = some (.cell cs)) (hD : cs.all isD = true) :
    RepS Γ E (upd β k none) (st.drop k (Vai.frz k cs) (frzR k cs)) a w ∧
      ∀ p v, RepC w (E.cx β w) p v → RepC w (E.cx (upd β k none) w) (frz0 k cs p) v := by
  obtain ⟨ra, h1, h2⟩ := h.hp k _ hrow
  have hn : ∀ j, j ≠ k → (E.cx (upd β k none) w).β j = (E.cx β w).β j := fun j hj => by show upd β k none j = β j; rw [upd_at, if_neg hj]
  have hok : ∀ b c s l o, ra = .blk b c s l → (E.cx (upd β k none) w).ok b o := by
    rintro b c s l o rfl
    have h3 := h.own k b c s l h1
    refine .inr ⟨?_, h3.2, ?_⟩
    · rcases h3.1 with h4 | h4
      · exact h4
      · omega
    · rintro ⟨j, c', s', l', hj⟩
      rw [upd_at] at hj
      by_cases e : j = k
      · rw [if_pos e] at hj; cases hj
      · rw [if_neg e] at hj
        exact e (h.inj j k b c' s' l' c s l hj h1)
  have hm : Move w w (E.cx β w) (E.cx (upd β k none) w) := move_grown h (Nat.le_refl _) (fun _ _ _ => rfl) (fun b _ hb => onB_drop hb)
  exact ⟨h.drop k _ _ (fx_local h hk) (fun hm p v hp => frz_ok hm hn h1 h2 hD hok p v hp) (fun hm r rb hr => frzR_ok hm hn h1 h2 hD hok r rb hr),
    fun p v hp => frz0_ok hm hn h1 h2 hD hok hp⟩

end
end Go.Vai

/- Each operation's effect on a pure state is its effect in memory: values and variables. No condition. -/
namespace Go.Vai

section
variable {P : Program}
/-- A run without memory. -/
theorem semW_run {α : Type} : ∀ (s : Sem α) (k : α → Prop) (w : World), semW s k → ∃ v n, s.run P w = .ok v { w with drawn := n } ∧ k v
  | .pure a, k, w, h => ⟨a, w.drawn, rfl, h⟩
  | .choose q f, k, w, h => by
    cases q with
    | nanBits a b c =>
      obtain ⟨v, n, h1, h2⟩ := semW_run _ k { w with drawn := w.drawn + 1 } (h (w.tape w.drawn (.nanBits a b c)))
      exact ⟨v, n, by simpa [Sem.run, Question.forced] using h1, h2⟩
    | _ => exact h.elim
  | .load _ _ _, _, _, h => h.elim
  | .store _ _ _ _, _, _, h => h.elim
  | .new _ _, _, _, h => h.elim
  | .shape _ _, _, _, h => h.elim
  | .freeze _ _ _, _, _, h => h.elim
  | .frozen _ _, _, _, h => h.elim
  | .getObj _ _, _, _, h => h.elim
  | .setObj _ _ _, _, _, h => h.elim
  | .sys _ _, _, _, h => h.elim
  | .program _, _, _, h => h.elim
  | .mark _ _, _, _, h => h.elim
  | .halt _, _, _, h => h.elim
end

theorem oneS_eq {v : Value} {k : PV → Prop} (h : oneS v k) : v.oneCell' = true ∧ k (.s v) := by
  unfold oneS at h
  split at h
  · exact h.elim
  · exact h.elim
  · exact h.elim
  · rename_i h1 h2 h3
    exact ⟨by cases v <;> first | rfl | exact absurd rfl (h1 _) | exact absurd rfl (h2 _), h⟩

def okOper (N : Nat) (o : Oper) : Bool := o.op.operands.toList.all (okOpd N)

section
variable {Γ : Ctx} {E : Env} {β : Nat → Option RA} {st : St} {a : Act} {w : World} {o : Oper} {k : St → Prop} {K : Act → World → Prop} {Q : Exit → Act → World → Prop}

def Nxt (Γ : Ctx) (E : Env) (k : St → Prop) (K : Act → World → Prop) : Prop := ∀ st' a' w', Rep Γ E st' a' w' → k st' → K a' w'

theorem putF_eq {d : Option Nat} {p : PV} (h : st.putF d p k) : k (st.put d p) := by unfold St.putF at h; rwa [force_eq] at h

theorem wp_value {v : Value} {w' : World} (hrun : (execOp a.eval o).run Γ.P w = .ok (.value v) w') (h : K (a.put o.dst v) w') : o.wp Γ.P a w K Q := by
  unfold Oper.wp; rw [hrun]; exact h
theorem wp_skipv {w' : World} (hrun : (execOp a.eval o).run Γ.P w = .ok .skip w') (h : K (a.put o.dst undef) w') : o.wp Γ.P a w K Q := by
  unfold Oper.wp; rw [hrun]; exact h

theorem mem_all {N : Nat} {l : List Operand} (h : l.all (okOpd N) = true) {x : Operand} (hx : x ∈ l) : okOpd N x = true := List.all_eq_true.1 h x hx

/-- The world has not turned, but for draws. -/
theorem fin_val (h : RepS Γ E β st a w) (hK : Nxt Γ E k K) (hdst : ∀ x, o.dst = some x → x < Γ.N) {p : PV} {v : Value} {n : Nat} (hrun : (execOp a.eval o).run Γ.P w = .ok (.value v) { w with drawn := n })
    (hv : RepV { w with drawn := n } (E.cx β { w with drawn := n }) p v) (hk : k (st.put o.dst p)) : o.wp Γ.P a w K Q :=
  wp_value hrun (hK _ _ _ ⟨β, (h.drew n).put hv hdst⟩ hk)
theorem fin_val0 (h : RepS Γ E β st a w) (hK : Nxt Γ E k K) (hdst : ∀ x, o.dst = some x → x < Γ.N) {p : PV} {v : Value} (hrun : (execOp a.eval o).run Γ.P w = .ok (.value v) w)
    (hv : RepV w (E.cx β w) p v) (hk : k (st.put o.dst p)) : o.wp Γ.P a w K Q :=
  wp_value hrun (hK _ _ _ ⟨β, h.put hv hdst⟩ hk)

theorem op_move {x : Operand} (hop : o.op = .move x ∨ o.op = .assign x) (h : RepS Γ E β st a w) (hx : okOpd Γ.N x = true) (hw : st.putF o.dst (typed Γ.T o.type (st.ev x)) k) (hK : Nxt Γ E k K) (hdst : ∀ x, o.dst = some x → x < Γ.N) : o.wp Γ.P a w K Q := by
  refine fin_val0 h hK hdst (p := typed Γ.T o.type (st.ev x)) (v := a.eval x) ?_ (repV_typed (h.ev hx)) (putF_eq hw)
  rcases hop with hop | hop <;> simp [execOp, hop]

theorem repV_bool {cx : Cx} {b : Bool} {v : Value} (h : RepV w cx (.s (.bool b)) v) : v = .bool b := by cases h; rfl
theorem repV_s_eq {cx : Cx} {x v : Value} (h : RepV w cx (.s x) v) : v = x ∧ x.oneCell' = true := by cases h; exact ⟨rfl, by assumption⟩

theorem op_pick {c x y : Operand} (hop : o.op = .pick c x y) (h : RepS Γ E β st a w) (hc : okOpd Γ.N c = true) (hx : okOpd Γ.N x = true) (hy : okOpd Γ.N y = true)
    (hw : opW Γ o st k) (hK : Nxt Γ E k K) (hdst : ∀ x, o.dst = some x → x < Γ.N) : o.wp Γ.P a w K Q := by
  unfold opW at hw
  rw [hop] at hw
  dsimp only at hw
  have hcv := h.ev hc
  split at hw
  · rename_i b hb
    rw [hb] at hcv
    have hcv := repV_bool hcv
    rw [brP_eq] at hw
    cases b with
    | true =>
      rw [if_pos rfl] at hw
      refine fin_val0 h hK hdst (v := a.eval x) ?_ (repV_typed (h.ev hx)) (putF_eq hw)
      simp [execOp, hop, hcv, asBool]
    | false =>
      rw [if_neg (by simp)] at hw
      refine fin_val0 h hK hdst (v := a.eval y) ?_ (repV_typed (h.ev hy)) (putF_eq hw)
      simp [execOp, hop, hcv, asBool]
  · exact hw.elim

theorem RepS.newCell (h : RepS Γ E β st a w) (d : Nat) (hdN : d < Γ.N) (cs : List PV) (us : List Value) (hl : RepL w (E.cx β w) cs us) (hno : cs.any (has1 (lid d)) = false) (t : Nat) :
    RepS Γ E (upd β (lid d) (some (.blk w.heap.size 1 cs.length 1))) (st.new d (.cell cs) (.ptr (lid d) 0 0)) (a.put (some d) (.pointer (some ⟨w.heap.size, 0, none⟩))) (w.alloc (.cells us.toArray t)) := by
  have h1 := h.setRow (lid d) (.cell cs) (.blk w.heap.size 1 cs.length 1) (w' := w.alloc (.cells us.toArray t)) rfl rfl rfl (by simp) (fun b hb _ => heap_alloc_old w _ hb)
    (fun b c s l e => by injection e with e1; subst e1; simp) (fx_local h (by simp [lid]))
    (fun hm => ⟨w.heap.size, us.toArray, t, rfl, heap_alloc_new w _, RepL.mono hm (fun j hj => by
      show upd β (lid d) _ j = β j
      rw [upd_at, if_neg (fun e => by rw [e, hno] at hj; cases hj)]) hl⟩)
  exact h1.put (d := some d) (p := .ptr (lid d) 0 0) (v := .pointer (some ⟨w.heap.size, 0, none⟩)) ⟨_, by show upd β (lid d) _ (lid d) = _; rw [upd_at, if_pos rfl], by simp⟩ (fun x hx => by cases hx; exact hdN)

theorem repL_zero {cx : Cx} : ∀ {zs : List PV}, zs.all zok = true → RepL w cx zs (zs.map zval)
  | [], _ => repL_nil _ _
  | p :: r, h => by
    simp only [List.all_cons, Bool.and_eq_true] at h
    rw [List.map_cons, repL_cons]
    refine ⟨?_, repL_zero h.2⟩
    have h1 := h.1
    cases p with
    | s v => exact ⟨RepD.s v h1, h1⟩
    | slc sz es full =>
      cases es with
      | cons _ _ => cases full <;> cases h1
      | nil => cases full with
        | false => cases h1
        | true => exact ⟨RepD.slc sz [] true none 0 (fun _ _ => undef) (Nat.le_refl _) (fun _ => rfl) (fun i e he => by simp at he) (fun hn => absurd rfl hn) (fun i j e p he => by simp at he), rfl⟩
    | _ => cases h1
theorem zero_no (k : Nat) : ∀ {zs : List PV}, zs.all zok = true → zs.any (has1 k) = false
  | [], _ => rfl
  | p :: r, h => by
    simp only [List.all_cons, Bool.and_eq_true] at h
    rw [List.any_cons, zero_no k h.2, Bool.or_false]
    have h1 := h.1
    cases p <;> first | rfl | cases h1

theorem op_alloc (hΓ : Γ.Ok) {t : Nat} (hop : o.op = .alloc t) (h : RepS Γ E β st a w) (hw : opW Γ o st k) (hK : Nxt Γ E k K) (hdst : ∀ x, o.dst = some x → x < Γ.N) : o.wp Γ.P a w K Q := by
  unfold opW at hw
  rw [hop] at hw
  dsimp only at hw
  split at hw
  · rename_i d ty hd hT
    have hty := hΓ.ty t ty hT
    obtain ⟨z, hz1, hz2⟩ := hty.run_zero (w := w)
    have hl : RepL w (E.cx β w) ty.zero z.cells.toList := by rw [hz2]; exact repL_zero hty.zok
    have h1 := h.newCell d (hdst d hd) ty.zero z.cells.toList hl (zero_no _ hty.zok) t
    have h2 : Rep Γ E (st.new d (.cell ty.zero) (.ptr (lid d) 0 0)) (a.put o.dst (.pointer (some ⟨w.heap.size, 0, none⟩))) (w.alloc (.cells z.cells t)) := ⟨_, by rw [hd]; simpa using h1⟩
    refine wp_value (v := .pointer (some ⟨w.heap.size, 0, none⟩)) (w' := w.alloc (.cells z.cells t)) ?_ (hK _ _ _ h2 hw)
    simp [execOp, hop, Instr.alloc, hz1, newVar, newRow]
  · exact hw.elim

/-- The cells of a value that may be stored. -/
theorem repV_cells {cx : Cx} {p : PV} {v : Value} (hok : okV p = true) (hp : RepV w cx p v) : RepL w cx (cellsOf p) v.cells.toList := by
  have one : okC p = true → RepC w cx p v → v.oneCell' = true → RepL w cx [p] v.cells.toList := by
    intro h1 h2 h3
    have : v.cells.toList = [v] := by cases v <;> first | rfl | cases h3
    rw [this, repL_cons]
    exact ⟨⟨h2, h3⟩, repL_nil _ _⟩
  cases p with
  | agg cs =>
    obtain ⟨us, rfl, h2⟩ := hp
    simpa [cellsOf, Value.cells] using h2
  | s x => exact one hok hp (RepD.one hp)
  | slc x y z => exact one hok hp (RepD.one hp)
  | ept x => exact one hok hp (RepD.one hp)
  | xs x y =>
    refine one hok hp ?_
    cases y with
    | none =>
      obtain ⟨ra, _, h2⟩ := hp
      cases ra with
      | nil_ => obtain ⟨A, rfl⟩ := h2; rfl
      | blk b c s l => have h2 : v = _ := h2; rw [h2]; rfl
    | some q =>
      obtain ⟨ra, _, h2⟩ := hp
      cases ra with
      | nil_ => obtain ⟨_, _, A, rfl⟩ := h2; rfl
      | blk b c s l => obtain ⟨_, A, h2, _⟩ := h2; rw [h2]; rfl
  | ptr x y z =>
    refine one hok hp ?_
    obtain ⟨ra, _, h2⟩ := hp
    cases ra with
    | nil_ => exact h2.elim
    | blk b c s l => have h2 : v = _ := h2; rw [h2]; rfl
  | clo x y =>
    refine one hok hp ?_
    obtain ⟨us, rfl, _⟩ := hp
    rfl
  | _ => cases hok

theorem op_box {t : Nat} {x : Operand} (hop : o.op = .box t x) (h : RepS Γ E β st a w) (hx : okOpd Γ.N x = true) (hw : opW Γ o st k) (hK : Nxt Γ E k K) (hdst : ∀ x, o.dst = some x → x < Γ.N) : o.wp Γ.P a w K Q := by
  unfold opW at hw
  rw [hop] at hw
  dsimp only at hw
  split at hw
  · rename_i d hd
    rw [force_eq] at hw
    split at hw
    · rename_i hc
      simp only [Bool.and_eq_true, Bool.not_eq_true'] at hc
      have hl := repV_cells hc.1 (repV_typed (T := Γ.T) (t := t) (h.ev hx))
      have hno : (cellsOf (typed Γ.T t (st.ev x))).any (has1 (lid d)) = false := by
        have h2 := hc.2
        have h3 := hc.1
        generalize typed Γ.T t (st.ev x) = p at h2 h3
        cases p <;> first | (cases h3; done) | exact h2 | simpa [cellsOf, has, has2] using h2
      have h1 := h.newCell d (hdst d hd) _ _ hl hno t
      have h2 : Rep Γ E (st.new d (.cell (cellsOf (typed Γ.T t (st.ev x)))) (.ptr (lid d) 0 0)) (a.put o.dst (.pointer (some ⟨w.heap.size, 0, none⟩))) (w.alloc (.cells (a.eval x).cells t)) := ⟨_, by rw [hd]; simpa using h1⟩
      refine wp_value (v := .pointer (some ⟨w.heap.size, 0, none⟩)) (w' := w.alloc (.cells (a.eval x).cells t)) ?_ (hK _ _ _ h2 hw)
      simp [execOp, hop, Instr.box, newVar, newRow]
    · exact hw.elim
  · exact hw.elim

theorem repC_of_D {cx : Cx} {p : PV} {v : Value} (hd : RepD w cx.ok p v) : RepC w cx p v := by
  cases hd with
  | s v hs => exact RepD.s v hs
  | slc sz es full A c us h1 h2 h3 h4 h5 => exact RepD.slc sz es full A c us h1 h2 h3 h4 h5
  | ept cs b o us h1 h2 => exact RepD.ept cs b o us h1 h2

theorem repL_slice {cx : Cx} {cs : List PV} {us : List Value} (h : RepL w cx cs us) (o n : Nat) : RepL w cx ((cs.drop o).take n) ((us.drop o).take n) := by
  refine ⟨by simp [h.1], fun i c u hc hu => ?_⟩
  rw [List.getElem?_take] at hc hu
  split at hc
  · rename_i hlt
    rw [if_pos hlt] at hu
    rw [List.getElem?_drop] at hc hu
    exact h.2 _ c u hc hu
  · cases hc

theorem repV_ofCells {cx : Cx} {cs : List PV} {us : List Value} {ag : Bool} {n : Nat} (h : RepL w cx cs us) (hl : us.length = n) (h1 : ag = false → n = 1) :
    RepV w cx (ofCells ag cs) (mkV ag us) := by
  cases ag with
  | true => exact ⟨us, rfl, h⟩
  | false =>
    have h2 := h1 rfl
    match us, cs, h, hl with
    | [u], [c], h, _ =>
      have h3 := (repL_cons.1 h).1.1
      show RepV w cx c u
      cases c <;> first | exact h3 | exact h3.elim
    | [], _, _, hl => simp [h2] at hl
    | _ :: _ :: _, _, _, hl => simp [h2] at hl
    | [_], [], h, _ => simp [RepL] at h
    | [_], _ :: _ :: _, h, _ => simp [RepL] at h

theorem op_load (hΓ : Γ.Ok) {t : Nat} {x : Operand} (hop : o.op = .load t x) (h : RepS Γ E β st a w) (hx : okOpd Γ.N x = true) (hw : opW Γ o st k) (hK : Nxt Γ E k K) (hdst : ∀ x, o.dst = some x → x < Γ.N) : o.wp Γ.P a w K Q := by
  unfold opW at hw
  rw [hop] at hw
  dsimp only at hw
  have hv := h.ev hx
  have fin : ∀ (ty : Ty) (b off : Nat) (cs : List PV) (us : List Value), Γ.T t = some ty → a.eval x = .pointer (some ⟨b, off, none⟩) → RepL w (E.cx β w) cs us → us.length = ty.size →
      (∀ (j : Nat) u, us[j]? = some u → w.cell? ⟨b, off + j, none⟩ = some u) → st.putF o.dst (ofCells ty.agg cs) k → o.wp Γ.P a w K Q := by
    intro ty b off cs us hT he hl hn hc hk
    have hty := hΓ.ty t ty hT
    refine fin_val0 h hK hdst (v := mkV ty.agg us) ?_ (repV_ofCells hl hn hty.one) (putF_eq hk)
    have h1 := run_loadVar (P := Γ.P) (w := w) hty hn hc
    simp [execOp, hop, Instr.loadAt, he, Instr.sureAddr, h1]
  split at hw
  · rename_i ty hT
    have hty := hΓ.ty t ty hT
    split at hw
    · rename_i j i off he
      rw [he] at hv
      split at hw
      · rename_i cs hH
        split at hw
        · rename_i hb
          simp only [Bool.and_eq_true] at hb
          have hi := Nat.eq_of_beq_eq_true hb.1
          have hle := Nat.le_of_ble_eq_true hb.2
          subst hi
          obtain ⟨ra, h1, b, us, t', h2, h3, h4⟩ := h.hp j _ hH
          subst h2
          obtain ⟨rb, h5, h6⟩ := hv
          change β j = some rb at h5
          rw [h1] at h5
          cases h5
          have h6 : a.eval x = .pointer (some ⟨b, 0 * cs.length + off, none⟩) := h6
          rw [Nat.zero_mul, Nat.zero_add] at h6
          refine fin ty b off _ ((us.toList.drop off).take ty.size) hT h6 (repL_slice h4 off ty.size) ?_ ?_ hw
          · have := h4.1
            simp at this ⊢
            omega
          · intro j u hu
            rw [List.getElem?_take] at hu
            split at hu
            · rw [List.getElem?_drop] at hu
              simpa [World.cell?, h3] using hu
            · cases hu
        · exact hw.elim
      · rename_i sz es hH
        obtain ⟨e, hes, hw⟩ := hw
        split at hw
        · rename_i hb
          have hle := Nat.le_of_ble_eq_true hb
          obtain ⟨ra, h1, h2⟩ := h.hp j _ hH
          rcases h2 with ⟨_, h3⟩ | ⟨b, cap, us, t', h3, h4, h5, h6, h7, h8⟩
          · subst h3; simp at hes
          · subst h3
            obtain ⟨rb, h9, h10⟩ := hv
            change β j = some rb at h9
            rw [h1] at h9
            cases h9
            have h10 : a.eval x = .pointer (some ⟨b, i * sz + off, none⟩) := h10
            have hez := h7 i e hes
            have hil : i < es.length := (List.getElem?_eq_some_iff.1 hes).1
            have hin : i * sz + sz ≤ us.size := by
              rw [h5]
              have : (i + 1) * sz ≤ cap * sz := Nat.mul_le_mul_right _ (by omega)
              rw [Nat.add_mul, Nat.one_mul] at this
              exact this
            refine fin ty b (i * sz + off) _ ((us.toList.drop (i * sz + off)).take ty.size) hT h10 ⟨?_, ?_⟩ ?_ ?_ hw
            · simp; omega
            · intro q c u hc hu
              rw [List.getElem?_take] at hc hu
              split at hc
              · rename_i hq
                rw [if_pos hq] at hu
                rw [List.getElem?_drop] at hc hu
                obtain ⟨u', hu', hd⟩ := h8 i (off + q) e c hes hc
                have : u' = u := by
                  rw [← Nat.add_assoc] at hu'
                  have : us[i * sz + off + q]? = some u := by simpa using hu
                  rw [hu'] at this
                  exact Option.some.inj this
                subst this
                exact ⟨repC_of_D hd, RepD.one hd⟩
              · cases hc
            · simp; omega
            · intro q u hu
              rw [List.getElem?_take] at hu
              split at hu
              · rw [List.getElem?_drop] at hu
                simpa [World.cell?, h4] using hu
              · cases hu
        · exact hw.elim
      · exact hw.elim
    · rename_i cs he
      rw [he] at hv
      split at hw
      · rename_i hb
        have hle := Nat.le_of_ble_eq_true hb
        have hv : RepD w (E.cx β w).ok (.ept cs) (a.eval x) := hv
        generalize hxv : a.eval x = xv at hv
        cases hv with
        | ept _ b o us ha hr =>
          refine fin ty b o _ (((List.range cs.length).map us).take ty.size) hT hxv ?_ ?_ ?_ hw
          · have : RepL w (E.cx β w) cs ((List.range cs.length).map us) := by
              refine ⟨by simp, fun i c u hc hu => ?_⟩
              have hi := (List.getElem?_eq_some_iff.1 hc).1
              simp [hi] at hu
              subst hu
              have hd := hr i c hc
              exact ⟨repC_of_D hd, RepD.one hd⟩
            simpa using repL_slice this 0 ty.size
          · simp; omega
          · intro j u hu
            rw [List.getElem?_take] at hu
            split at hu
            · have hj : j < cs.length := by
                rcases Nat.lt_or_ge j cs.length with h' | h'
                · exact h'
                · simp [List.getElem?_eq_none, h'] at hu
              simp [hj] at hu
              subst hu
              exact (ha j hj).2
            · cases hu
      · exact hw.elim
    · exact hw.elim
  · exact hw.elim

theorem setCells_eq : ∀ (vs cs : List PV) (off : Nat), off + vs.length ≤ cs.length → setCells cs off vs = cs.take off ++ vs ++ cs.drop (off + vs.length)
  | [], cs, off, _ => by simp [setCells]
  | v :: vs, cs, off, h => by
    simp only [List.length_cons] at h
    rw [setCells, setCells_eq vs (cs.set off v) (off + 1) (by simp; omega)]
    have h1 : (cs.set off v).take (off + 1) = cs.take off ++ [v] := by
      rw [List.take_succ_eq_append_getElem (by simp; omega)]
      rw [List.take_set, List.set_eq_of_length_le (by simp; omega)]
      simp
    have h2 : (cs.set off v).drop (off + 1 + vs.length) = cs.drop (off + (vs.length + 1)) := by
      rw [List.drop_set_of_lt (by omega), show off + 1 + vs.length = off + (vs.length + 1) by omega]
    rw [h1, h2]
    simp

theorem repL_append {cx : Cx} : ∀ {cs ds : List PV} {us vs : List Value}, RepL w cx cs us → RepL w cx ds vs → RepL w cx (cs ++ ds) (us ++ vs)
  | [], _, [], _, _, h => h
  | [], _, _ :: _, _, h, _ => by simp [RepL] at h
  | _ :: _, _, [], _, h, _ => by simp [RepL] at h
  | p :: r, ds, u :: us, vs, h, h2 => by
    rw [repL_cons] at h
    show RepL w cx (p :: (r ++ ds)) (u :: (us ++ vs))
    rw [repL_cons]
    exact ⟨h.1, repL_append h.2 h2⟩
theorem repL_one {cx : Cx} {cs : List PV} {us : List Value} (h : RepL w cx cs us) : ∀ u ∈ us, u.oneCell' = true := by
  intro u hu
  obtain ⟨i, hi, rfl⟩ := List.mem_iff_getElem.1 hu
  have hi' : i < cs.length := by rw [← h.1]; exact hi
  exact (h.2 i cs[i] us[i] (by simp [hi']) (by simp [hi])).2

theorem op_store (hΓ : Γ.Ok) {t : Nat} {x y : Operand} (hop : o.op = .store t x y) (h : RepS Γ E β st a w) (hd : o.dst = none) (hx : okOpd Γ.N x = true) (hy : okOpd Γ.N y = true) (hw : opW Γ o st k) (hK : Nxt Γ E k K) (hdst : ∀ x, o.dst = some x → x < Γ.N) : o.wp Γ.P a w K Q := by
  unfold opW at hw
  rw [hop] at hw
  dsimp only at hw
  have hv := h.ev hx
  split at hw
  case h_2 => exact hw.elim
  rename_i ty hT
  have hty := hΓ.ty t ty hT
  split at hw
  case h_2 => exact hw.elim
  rename_i j i off he
  rw [he] at hv
  have run : ∀ (b o' : Nat) (cur : Array Value) (t' : Nat), a.eval x = .pointer (some ⟨b, o', none⟩) → w.heap[b]? = some (.cells cur t' (0, 0)) → (a.eval y).cells.toList.length = ty.size → o' + (a.eval y).cells.toList.length ≤ cur.size →
      (∀ v ∈ (a.eval y).cells.toList, v.oneCell' = true) → (execOp a.eval o).run Γ.P w = .ok .skip (w.setRow b (cur.toList.take o' ++ (a.eval y).cells.toList ++ cur.toList.drop (o' + (a.eval y).cells.toList.length)).toArray) := by
    intro b o' cur t' h1 h2 h3 h4 h5
    have h6 := run_storeCells_at Γ.P b o' t' (a.eval y).cells.toList 0 cur w h2 (by simpa using h4) h5
    simp only [Nat.add_zero] at h6
    have h7 : ¬ (a.eval y).cells.size ≠ ty.size := by simpa using h3
    simp [execOp, hop, Instr.storeAt, h1, Instr.sureAddr, storeVar, hty.size, h7, h6]
  split at hw
  · rename_i cs hH
    rw [force_eq] at hw
    split at hw
    case h_2 => exact hw.elim
    rename_i hb
    simp only [Bool.and_eq_true] at hb
    obtain ⟨⟨⟨hok, hi⟩, hlen⟩, hle⟩ := hb
    have hi := Nat.eq_of_beq_eq_true hi
    have hlen := Nat.eq_of_beq_eq_true hlen
    have hle := Nat.le_of_ble_eq_true hle
    rw [forceL_eq] at hw
    subst hi
    have hl := repV_cells hok (repV_typed (T := Γ.T) (t := t) (h.ev hy))
    obtain ⟨ra, h1, b, us, t', h2, h3, h4⟩ := h.hp j _ hH
    subst h2
    obtain ⟨rb, h5, h6⟩ := hv
    change β j = some rb at h5
    rw [h1] at h5
    cases h5
    have h6 : a.eval x = .pointer (some ⟨b, 0 * cs.length + off, none⟩) := h6
    rw [Nat.zero_mul, Nat.zero_add] at h6
    have hsz : us.size = cs.length := by simpa using h4.1
    have hcl : (a.eval y).cells.toList.length = ty.size := by rw [hl.1, hlen]
    have hrun := run b off us t' h6 h3 hcl (by rw [hcl, hsz]; exact hle) (repL_one hl)
    refine wp_skipv hrun (hK (st.setH j (.cell (setCells cs off (cellsOf (typed Γ.T t (st.ev y)))))) _ _ ⟨β, ?_⟩ hw)
    rw [hd]
    show RepS Γ E β (st.setH j _) a _
    refine h.write j _ _ h1 rfl rfl rfl (by simp) (fun b' hb' => setRow_other w b b' _ (fun e => hb' 1 cs.length 1 (by rw [e]))) (fun hm => ?_)
    refine ⟨b, _, t', ?_, setRow_heap w b us _ t' _ h3, ?_⟩
    · rw [setCells_eq _ _ _ (by rw [hlen]; exact hle)]
      simp
      omega
    · rw [setCells_eq _ _ _ (by rw [hlen]; exact hle)]
      refine RepL.mono hm (fun _ _ => rfl) ?_
      have e1 : off + (a.eval y).cells.toList.length = off + (cellsOf (typed Γ.T t (st.ev y))).length := by rw [hl.1]
      rw [e1]
      have e2 := repL_slice h4 0 off
      have e3 := repL_slice h4 (off + (cellsOf (typed Γ.T t (st.ev y))).length) cs.length
      simp only [List.drop_zero] at e2
      have e4 : (us.toList.drop (off + (cellsOf (typed Γ.T t (st.ev y))).length)).take cs.length = us.toList.drop (off + (cellsOf (typed Γ.T t (st.ev y))).length) := List.take_of_length_le (by simp; omega)
      have e5 : (cs.drop (off + (cellsOf (typed Γ.T t (st.ev y))).length)).take cs.length = cs.drop (off + (cellsOf (typed Γ.T t (st.ev y))).length) := List.take_of_length_le (by simp)
      rw [e4, e5] at e3
      simpa using repL_append (repL_append e2 hl) e3
  · rename_i sz es hH
    rw [force_eq] at hw
    split at hw
    case h_2 => exact hw.elim
    rename_i hb
    simp only [Bool.and_eq_true] at hb
    obtain ⟨⟨⟨hD, hoff⟩, hlen⟩, hsz⟩ := hb
    have hoff := Nat.eq_of_beq_eq_true hoff
    have hlen := Nat.eq_of_beq_eq_true hlen
    have hsz := Nat.eq_of_beq_eq_true hsz
    subst hoff
    obtain ⟨hil, hw⟩ := hw
    have hok : okV (typed Γ.T t (st.ev y)) = true := by
      generalize typed Γ.T t (st.ev y) = p at hD
      cases p <;> first | rfl | (simp [cellsOf, isD] at hD; done)
    have hl := repV_cells hok (repV_typed (T := Γ.T) (t := t) (h.ev hy))
    obtain ⟨ra, h1, h2⟩ := h.hp j _ hH
    rcases h2 with ⟨_, h3⟩ | ⟨b, cap, us, t', h3, h4, h5, h6, h7, h8⟩
    · subst h3; simp at hil
    subst h3
    obtain ⟨rb, h9, h10⟩ := hv
    change β j = some rb at h9
    rw [h1] at h9
    cases h9
    have h10 : a.eval x = .pointer (some ⟨b, i * sz + 0, none⟩) := h10
    rw [Nat.add_zero] at h10
    have hcl : (a.eval y).cells.toList.length = sz := by rw [hl.1, hlen, hsz]
    have hin : i * sz + sz ≤ us.size := by
      rw [h5]
      have : (i + 1) * sz ≤ cap * sz := Nat.mul_le_mul_right _ (by omega)
      rw [Nat.add_mul, Nat.one_mul] at this
      exact this
    have hrun := run b (i * sz) us t' h10 h4 (by rw [hcl, hsz]) (by rw [hcl]; exact hin) (repL_one hl)
    refine wp_skipv hrun (hK (st.setH j (.row sz (es.set i (cellsOf (typed Γ.T t (st.ev y)))))) _ _ ⟨β, ?_⟩ hw)
    rw [hd]
    show RepS Γ E β (st.setH j _) a _
    refine h.write j _ _ h1 rfl rfl rfl (by simp) (fun b' hb' => setRow_other w b b' _ (fun e => hb' cap sz es.length (by rw [e]))) (fun hm => .inr ?_)
    refine ⟨b, cap, _, t', by simp, setRow_heap w b us _ t' _ h4, ?_, by simpa using h6, ?_, ?_⟩
    · simp only [List.size_toArray, List.length_append, List.length_take, List.length_drop, Array.length_toList, hcl]
      rw [Nat.min_eq_left (by omega), h5]
      rw [h5] at hin
      omega
    · intro q e he
      rw [List.getElem?_set] at he
      by_cases hq : i = q
      · rw [if_pos hq] at he
        subst hq
        rw [if_pos hil] at he
        cases he; rw [hlen, hsz]
      · rw [if_neg hq] at he
        exact h7 q e he
    · intro q r e p he hp
      have hcl' : (a.eval y).cells.size = sz := by simpa using hcl
      rw [List.getElem?_set] at he
      have hsz1 : (us.toList.take (i * sz)).length = i * sz := by simp; omega
      by_cases hq : i = q
      · subst hq
        rw [if_pos rfl, if_pos hil] at he
        cases he
        have hr : r < sz := by
          have := (List.getElem?_eq_some_iff.1 hp).1
          omega
        have hr2 : r < (a.eval y).cells.toList.length := by omega
        refine ⟨(a.eval y).cells.toList[r], ?_, ?_⟩
        · simp only [List.getElem?_toArray, List.append_assoc]
          rw [List.getElem?_append_right (by omega), hsz1, List.getElem?_append_left (by omega), show i * sz + r - i * sz = r by omega]
          simp
        · have h12 := (hl.2 r p _ hp (List.getElem?_eq_getElem hr2)).1
          exact RepD.mono hm.cell (isD_repD (List.all_eq_true.1 hD p (List.mem_of_getElem? hp)) h12)
      · rw [if_neg hq] at he
        obtain ⟨u, hu, hdd⟩ := h8 q r e p he hp
        have hr : r < sz := by
          have h13 := (List.getElem?_eq_some_iff.1 hp).1
          rw [h7 q e he] at h13
          exact h13
        refine ⟨u, ?_, RepD.mono hm.cell hdd⟩
        simp only [List.getElem?_toArray, List.append_assoc]
        rcases Nat.lt_or_ge q i with hlt | hge
        · have h14 : q * sz + r < i * sz := by
            have : (q + 1) * sz ≤ i * sz := Nat.mul_le_mul_right _ (by omega)
            rw [Nat.add_mul, Nat.one_mul] at this
            omega
          rw [List.getElem?_append_left (by omega), List.getElem?_take, if_pos h14]
          simpa using hu
        · have h14 : i * sz + sz ≤ q * sz + r := by
            have : (i + 1) * sz ≤ q * sz := Nat.mul_le_mul_right _ (by omega)
            rw [Nat.add_mul, Nat.one_mul] at this
            omega
          rw [List.getElem?_append_right (by omega), hsz1, List.getElem?_append_right (by omega), List.getElem?_drop, hcl]
          rw [show i * sz + sz + (q * sz + r - i * sz - sz) = q * sz + r by omega]
          simpa using hu
  · exact hw.elim

end
end Go.Vai

/- Each operation's effect on a pure state is its effect in memory: operators, addresses, cuts. No condition. -/
namespace Go.Vai

section
variable {Γ : Ctx} {E : Env} {β : Nat → Option RA} {st : St} {a : Act} {w : World} {o : Oper} {k : St → Prop} {K : Act → World → Prop} {Q : Exit → Act → World → Prop}

theorem op_nilCheck {x : Operand} (hop : o.op = .nilCheck x) (h : RepS Γ E β st a w) (hx : okOpd Γ.N x = true) (hw : opW Γ o st k) (hK : Nxt Γ E k K) (hdst : ∀ x, o.dst = some x → x < Γ.N) : o.wp Γ.P a w K Q := by
  unfold opW at hw
  rw [hop] at hw
  dsimp only at hw
  have hv := h.ev hx
  split at hw
  · rename_i j i off he
    rw [he] at hv
    have hv' := hv
    obtain ⟨ra, h1, h2⟩ := hv
    cases ra with
    | nil_ => exact h2.elim
    | blk b c s l =>
      have h2 : a.eval x = _ := h2
      exact fin_val0 h hK hdst (v := a.eval x) (by simp [execOp, hop, h2]) hv' hw
  · rename_i cs he
    rw [he] at hv
    have hv : RepD w (E.cx β w).ok (.ept cs) (a.eval x) := hv
    generalize hxv : a.eval x = xv at hv
    cases hv with
    | ept _ b o' us ha hr => exact fin_val0 h hK hdst (p := .ept cs) (v := .pointer (some ⟨b, o', none⟩)) (by simp [execOp, hop, hxv]) (RepD.ept cs b o' us ha hr) hw
  · rename_i f cs he
    rw [he] at hv
    have hv' := hv
    obtain ⟨us, h1, h2⟩ := hv
    exact fin_val0 h hK hdst (v := a.eval x) (by simp [execOp, hop, h1]) hv' hw
  · rename_i f x1 x2 he
    rw [he] at hv
    have h1 := (repV_s_eq hv).1
    exact fin_val0 h hK hdst (p := .s (.func (.func f) x1 x2)) (v := .func (.func f) x1 x2) (by simp [execOp, hop, h1]) (RepD.s _ rfl) hw
  · exact hw.elim

theorem fin_sem (h : RepS Γ E β st a w) (hK : Nxt Γ E k K) (hdst : ∀ x, o.dst = some x → x < Γ.N) {s : Sem Value} (hex : execOp a.eval o = (do pure (.value (← s)))) (hw : semW s fun v => oneS v fun p => st.putF o.dst p k) : o.wp Γ.P a w K Q := by
  obtain ⟨v, n, h1, h2⟩ := semW_run (P := Γ.P) s _ w hw
  have h3 := oneS_eq h2
  refine fin_val h hK hdst (p := .s v) (v := v) (n := n) ?_ (RepD.s v h3.1) (putF_eq h3.2)
  rw [hex]
  simp [h1]

theorem run_eq_nil {t : Nat} {a1 : Array TypeId} {b1 : Array TypeId} {c1 : Bool} (hd : Γ.P.underlying t = some (.func a1 b1 c1)) : ∀ n, (Op.equalIn (n + 1) t .nilFunc .nilFunc).run Γ.P w = .ok true w := fun n => by
  rw [Op.equalIn]
  simp [run_und hd]
theorem run_eq_fun {t : Nat} {a1 : Array TypeId} {b1 : Array TypeId} {c1 : Bool} (hd : Γ.P.underlying t = some (.func a1 b1 c1)) (f : Fn) (u v : Array Value) : ∀ n, (Op.equalIn (n + 1) t (.func f u v) .nilFunc).run Γ.P w = .ok false w := fun n => by
  rw [Op.equalIn]
  simp [run_und hd]

theorem fnNil_ok {cx : Cx} {op : BinOp} {p q : PV} {x y : Value} {b : Bool} (hf : fnNil op p q = some b) (hp : RepV w cx p x) (hq : RepV w cx q y) {X Y : Operand} {t : Nat}
    {a1 : Array TypeId} {b1 : Array TypeId} {c1 : Bool} (hd : Γ.P.underlying t = some (.func a1 b1 c1)) :
    (do eqGuard op t X Y x y; Go.binOp op t x y : Sem Value).run Γ.P w = .ok (.bool b) w := by
  have hn : (Op.equal t .nilFunc .nilFunc).run Γ.P w = .ok true w := run_eq_nil hd 9999
  have hfn : ∀ f u v, (Op.equal t (.func f u v) .nilFunc).run Γ.P w = .ok false w := fun f u v => run_eq_fun hd f u v 9999
  unfold fnNil at hf
  split at hf
  · split at hf
    · cases hf
      have h1 := (repV_s_eq hp).1
      have h2 := (repV_s_eq hq).1
      subst h1; subst h2
      simp [eqGuard, Go.binOp, hn]
    · cases hf
      obtain ⟨us, h1, _⟩ := hp
      have h2 := (repV_s_eq hq).1
      subst h1; subst h2
      simp [eqGuard, Go.binOp, hfn]
    · cases hf
      have h1 := (repV_s_eq hp).1
      have h2 := (repV_s_eq hq).1
      subst h1; subst h2
      simp [eqGuard, Go.binOp, hfn]
    · cases hf
  · split at hf
    · cases hf
      have h1 := (repV_s_eq hp).1
      have h2 := (repV_s_eq hq).1
      subst h1; subst h2
      simp [eqGuard, Go.binOp, hn]
    · cases hf
      obtain ⟨us, h1, _⟩ := hp
      have h2 := (repV_s_eq hq).1
      subst h1; subst h2
      simp [eqGuard, Go.binOp, hfn]
    · cases hf
      have h1 := (repV_s_eq hp).1
      have h2 := (repV_s_eq hq).1
      subst h1; subst h2
      simp [eqGuard, Go.binOp, hfn]
    · cases hf
  · cases hf

theorem run_eq_bool {t : Nat} (hd : Γ.P.underlying t = some .bool) (a b : Bool) : (Op.equal t (.bool a) (.bool b)).run Γ.P w = .ok (a == b) w := by
  unfold Op.equal Op.maxDepth
  rw [Op.equalIn]
  simp [run_und hd]
theorem boolEq_ok {cx : Cx} {op : BinOp} {p q : PV} {x y : Value} {b : Bool} (hf : boolEq op p q = some b) (hp : RepV w cx p x) (hq : RepV w cx q y) {X Y : Operand} {t : Nat} (hd : Γ.P.underlying t = some .bool) :
    (do eqGuard op t X Y x y; Go.binOp op t x y : Sem Value).run Γ.P w = .ok (.bool b) w := by
  unfold boolEq at hf
  split at hf
  · cases hf
    rw [(repV_s_eq hp).1, (repV_s_eq hq).1]
    simp [eqGuard, Go.binOp, run_eq_bool hd]
  · cases hf
    rw [(repV_s_eq hp).1, (repV_s_eq hq).1]
    simp [eqGuard, Go.binOp, run_eq_bool hd]
  · cases hf

theorem op_binOp (hΓ : Γ.Ok) {op : BinOp} {t : Nat} {x y : Operand} {t2 : Nat} (hop : o.op = .binOp op t x y t2) (h : RepS Γ E β st a w) (hx : okOpd Γ.N x = true) (hy : okOpd Γ.N y = true) (hw : opW Γ o st k) (hK : Nxt Γ E k K) (hdst : ∀ x, o.dst = some x → x < Γ.N) : o.wp Γ.P a w K Q := by
  unfold opW at hw
  rw [hop] at hw
  dsimp only at hw
  have hv := h.ev hx
  have hu := h.ev hy
  split at hw
  · rename_i b hb
    split at hw
    case h_2 => exact hw.elim
    rename_i ty hT
    split at hw
    case h_2 => exact hw.elim
    rename_i hk
    have hty := (hΓ.ty t ty hT).kind
    unfold KindOk at hty
    rw [hk] at hty
    obtain ⟨a1, b1, c1, hd⟩ := hty
    have h1 := fnNil_ok hb hv hu (X := x) (Y := y) hd
    refine fin_val0 h hK hdst (p := bv b) (v := .bool b) ?_ (RepD.s _ rfl) hw
    simp only [execOp, hop, Sem.run_bind] at h1 ⊢
    rw [h1]
    rfl
  · split at hw
    · rename_i b hb
      split at hw
      case h_2 => exact hw.elim
      rename_i ty hT
      split at hw
      case h_2 => exact hw.elim
      rename_i hk
      have hty := (hΓ.ty t ty hT).kind
      unfold KindOk at hty
      rw [hk] at hty
      have h1 := boolEq_ok hb hv hu (X := x) (Y := y) hty
      refine fin_val0 h hK hdst (p := bv b) (v := .bool b) ?_ (RepD.s _ rfl) hw
      simp only [execOp, hop, Sem.run_bind] at h1 ⊢
      rw [h1]
      rfl
    split at hw
    case h_2 => exact hw.elim
    rename_i p q he1 he2
    rw [he1] at hv
    rw [he2] at hu
    have h1 := (repV_s_eq hv).1
    have h2 := (repV_s_eq hu).1
    refine fin_sem h hK hdst (s := do eqGuard op t x y p q; Go.binOp op t p q) ?_ hw
    simp [execOp, hop, h1, h2]

theorem op_unOp {op : UnOp} {t : Nat} {x : Operand} (hop : o.op = .unOp op t x) (h : RepS Γ E β st a w) (hx : okOpd Γ.N x = true) (hw : opW Γ o st k) (hK : Nxt Γ E k K) (hdst : ∀ x, o.dst = some x → x < Γ.N) : o.wp Γ.P a w K Q := by
  unfold opW at hw
  rw [hop] at hw
  dsimp only at hw
  have hv := h.ev hx
  split at hw
  case h_2 => exact hw.elim
  rename_i v he
  rw [he] at hv
  have h1 := (repV_s_eq hv).1
  refine fin_sem h hK hdst (s := Op.unary op v) ?_ hw
  simp [execOp, hop, h1]

theorem run_convert {src dst : Nat} {x : Value} {d d' : TypeDesc} (h1 : Γ.P.underlying src = some d) (h2 : Γ.P.underlying dst = some d') :
    (Go.convert src dst x).run Γ.P w = (match d, d', x with
      | _, .int k, .int _ n => (Conv.intToInt k n : Sem Value)
      | _, .float k, .int _ n => Conv.intToFloat k n
      | _, .string, .string _ => pure x
      | _, _, _ => Go.convert src dst x).run Γ.P w := by
  split
  · simp [Go.convert, run_und h1, run_und h2]
  · simp [Go.convert, run_und h1, run_und h2]
  · simp [Go.convert, run_und h1, run_und h2]
  · rfl

end
end Go.Vai

/- Each operation's effect on a pure state is its effect in memory: conversions, addresses, cuts, lengths. No condition. -/
namespace Go.Vai

section
variable {Γ : Ctx} {E : Env} {β : Nat → Option RA} {st : St} {a : Act} {w : World} {o : Oper} {k : St → Prop} {K : Act → World → Prop} {Q : Exit → Act → World → Prop}

theorem TyOk.under {P : Program} {t : Nat} {ty : Ty} (h : TyOk P t ty) : ∃ d, P.underlying t = some d := by
  have := h.agg
  cases hu : P.underlying t with
  | none => simp [hu] at this
  | some d => exact ⟨d, rfl⟩

theorem op_convert (hΓ : Γ.Ok) {src dst : Nat} {x : Operand} (hop : o.op = .convert src dst x) (h : RepS Γ E β st a w) (hx : okOpd Γ.N x = true) (hw : opW Γ o st k) (hK : Nxt Γ E k K) (hdst : ∀ x, o.dst = some x → x < Γ.N) : o.wp Γ.P a w K Q := by
  unfold opW at hw
  rw [hop] at hw
  dsimp only at hw
  have hv := h.ev hx
  split at hw
  case h_2 => exact hw.elim
  rename_i ty ty2 hT hT2
  obtain ⟨d2, hd2⟩ := (hΓ.ty src ty2 hT2).under
  have hk := (hΓ.ty dst ty hT).kind
  unfold KindOk at hk
  split at hw
  · rename_i q k2 n hk2 he
    rw [hk2] at hk
    rw [he] at hv
    have h1 := (repV_s_eq hv).1
    have h2 := run_convert (Γ := Γ) (w := w) (x := .int k2 n) hd2 hk
    refine fin_val0 h hK hdst (p := .s (.int q (q.wrap n))) (v := .int q (q.wrap n)) ?_ (RepD.s _ rfl) hw
    simp [execOp, hop, h1, h2, Conv.intToInt]
  · rename_i q k2 n hk2 he
    rw [hk2] at hk
    rw [he] at hv
    have h1 := (repV_s_eq hv).1
    have h2 := run_convert (Γ := Γ) (w := w) (x := .int k2 n) hd2 hk
    refine fin_val0 h hK hdst (p := .s (.float q (q.nearest n))) (v := .float q (q.nearest n)) ?_ (RepD.s _ rfl) hw
    simp [execOp, hop, h1, h2, Conv.intToFloat]
  · rename_i b hk2 he
    rw [hk2] at hk
    rw [he] at hv
    have h1 := (repV_s_eq hv).1
    have h2 := run_convert (Γ := Γ) (w := w) (x := .string b) hd2 hk
    refine fin_val0 h hK hdst (p := .s (.string b)) (v := .string b) ?_ (RepD.s _ rfl) hw
    simp [execOp, hop, h1, h2]
  · exact hw.elim

theorem field_at {P : Program} {fs : Array Field} {flds : List (Nat × Nat)} (h : (fs.toList.map fun f => (f.offset, (P.info? f.type).map (·.size))) = flds.map (fun x => (x.1, some x.2))) {f off sz : Nat} (hf : flds[f]? = some (off, sz)) :
    ∃ F, fs[f]? = some F ∧ F.offset = off ∧ (P.info? F.type).map (·.size) = some sz := by
  have h1 := congrArg (fun l => l[f]?) h
  simp only [List.getElem?_map, hf, Option.map_some] at h1
  cases hx : fs.toList[f]? with
  | none => rw [hx] at h1; cases h1
  | some F =>
    rw [hx] at h1
    simp at h1
    exact ⟨F, by simpa using hx, h1.1, by rw [Option.map_eq_some_iff]; exact h1.2⟩

theorem op_fieldAddr (hΓ : Γ.Ok) {s f : Nat} {x : Operand} (hop : o.op = .fieldAddr s x f) (h : RepS Γ E β st a w) (hx : okOpd Γ.N x = true) (hw : opW Γ o st k) (hK : Nxt Γ E k K) (hdst : ∀ x, o.dst = some x → x < Γ.N) : o.wp Γ.P a w K Q := by
  unfold opW at hw
  rw [hop] at hw
  dsimp only at hw
  have hv := h.ev hx
  split at hw
  case h_2 => exact hw.elim
  rename_i ty hT
  have hk := (hΓ.ty s ty hT).kind
  unfold KindOk at hk
  split at hw
  case h_2 => exact hw.elim
  rename_i off sz hk2 hf
  rw [hk2] at hk
  obtain ⟨fs, hu, hfs, hpos⟩ := hk
  obtain ⟨F, hF, hoff, hsz⟩ := field_at hfs hf
  have hp := List.all_eq_true.1 hpos (off, sz) (List.mem_of_getElem? hf)
  have hp : 0 < sz := Nat.le_of_ble_eq_true hp
  have run : ∀ b o', a.eval x = .pointer (some ⟨b, o', none⟩) → (execOp a.eval o).run Γ.P w = .ok (.value (.pointer (some ⟨b, o' + off, none⟩))) w := by
    intro b o' he
    have h1 : ¬ sz = 0 := by omega
    simp [execOp, hop, Instr.fieldAt, run_und hu, hF, he, Instr.sureAddr, fieldPlace, run_sizeOf hsz, h1, add_none, hoff]
  split at hw
  · rename_i j i o0 he
    rw [he] at hv
    obtain ⟨ra, h1, h2⟩ := hv
    cases ra with
    | nil_ => exact h2.elim
    | blk b c s' l =>
      have h2 : a.eval x = _ := h2
      refine fin_val0 h hK hdst (run _ _ h2) (p := .ptr j i (o0 + off)) ⟨_, h1, ?_⟩ hw
      show Value.pointer _ = _
      rw [Nat.add_assoc]
  · rename_i cs he
    rw [he] at hv
    rw [forceL_eq] at hw
    have hv : RepD w (E.cx β w).ok (.ept cs) (a.eval x) := hv
    generalize hxv : a.eval x = xv at hv
    cases hv with
    | ept _ b o' us ha hr =>
      refine fin_val0 h hK hdst (run _ _ hxv) (p := .ept (cs.drop off)) (RepD.ept (cs.drop off) b (o' + off) (fun j => us (off + j)) (fun j hj => ?_) (fun j p hp => ?_)) hw
      · simp at hj
        have := ha (off + j) (by omega)
        rw [Nat.add_assoc]
        exact this
      · rw [List.getElem?_drop] at hp
        exact hr (off + j) p hp
  · exact hw.elim

theorem op_extract {t : Operand} {i : Nat} (hop : o.op = .extract t i) (h : RepS Γ E β st a w) (hx : okOpd Γ.N t = true) (hw : opW Γ o st k) (hK : Nxt Γ E k K) (hdst : ∀ x, o.dst = some x → x < Γ.N) : o.wp Γ.P a w K Q := by
  unfold opW at hw
  rw [hop] at hw
  dsimp only at hw
  have hv := h.ev hx
  split at hw
  case h_2 => exact hw.elim
  rename_i vs he
  rw [he] at hv
  split at hw
  case h_2 => exact hw.elim
  rename_i p hp
  obtain ⟨us, h1, h2, h3⟩ := hv
  have hi : i < us.length := by rw [h2]; exact (List.getElem?_eq_some_iff.1 hp).1
  refine fin_val0 h hK hdst (v := us[i]) ?_ (repV_of2 (h3 i p us[i] hp (List.getElem?_eq_getElem hi))) (putF_eq hw)
  simp [execOp, hop, h1, Instr.extract, hi]

theorem repV_int {cx : Cx} {q : IntKind} {i : Int} {v : Value} (h : RepV w cx (.s (.int q i)) v) : v = .int q i := (repV_s_eq h).1

theorem repV_slc {cx : Cx} {sz : Nat} {es : List (List PV)} {full : Bool} {v : Value} (h : RepV w cx (.slc sz es full) v) : ∃ (A : Option Addr) (c : Nat) (us : Nat → Nat → Value), v = .slice A es.length c ∧ es.length ≤ c ∧ (full = true → c = es.length) ∧ (∀ (i : Nat) e, es[i]? = some e → e.length = sz) ∧
    (es ≠ [] → ∃ b o, A = some ⟨b, o, none⟩ ∧ ∀ i j, i < es.length → j < sz → cx.ok b (o + (i * sz + j)) ∧ w.cell? ⟨b, o + (i * sz + j), none⟩ = some (us i j)) ∧
    (∀ (i j : Nat) e p, es[i]? = some e → e[j]? = some p → RepD w cx.ok p (us i j)) := by
  cases h with
  | slc _ _ _ A c us hc hf he ha hr => exact ⟨A, c, us, rfl, hc, hf, he, ha, hr⟩

theorem op_indexAddr (hΓ : Γ.Ok) {t : Nat} {x ix : Operand} (hop : o.op = .indexAddr t x ix) (h : RepS Γ E β st a w) (hx : okOpd Γ.N x = true) (hix : okOpd Γ.N ix = true) (hw : opW Γ o st k) (hK : Nxt Γ E k K) (hdst : ∀ x, o.dst = some x → x < Γ.N) : o.wp Γ.P a w K Q := by
  unfold opW at hw
  rw [hop] at hw
  dsimp only at hw
  have hv := h.ev hx
  have hi := h.ev hix
  split at hw
  case h_2 => exact hw.elim
  rename_i ty hT
  have hk := (hΓ.ty t ty hT).kind
  unfold KindOk at hk
  split at hw
  · rename_i q i hk2 he
    rw [hk2] at hk
    rw [he] at hi
    have hi := repV_int hi
    obtain ⟨e, ez, hu, hinfo, _, _, hpos, _⟩ := hk
    have hsz : (Γ.P.info? e).map (·.size) = some ty.el := by
      cases hq : Γ.P.info? e with
      | none => simp [hq] at hinfo
      | some i => simp [hq] at hinfo ⊢; exact hinfo.1
    have run : ∀ b o' n c, a.eval x = .slice (some ⟨b, o', none⟩) n c → 0 ≤ i → i < n → (execOp a.eval o).run Γ.P w = .ok (.value (.pointer (some ⟨b, o' + i.toNat * ty.el, none⟩))) w := by
      intro b o' n c he2 h0 h1
      have hcond : 0 ≤ i ∧ i < (n : Int) := ⟨h0, h1⟩
      simp [execOp, hop, Instr.indexAt, hi, asIntOf, run_und hu, he2, hcond, run_sizeOf hsz, add_none]
    split at hw
    · rename_i sz es full he2
      rw [he2] at hv
      split at hw
      case h_2 => exact hw.elim
      rename_i hb
      have hb := Nat.eq_of_beq_eq_true hb
      subst hb
      obtain ⟨h0, c, hc, hw⟩ := hw
      rw [forceL_eq] at hw
      obtain ⟨A, cap, us, hvx, hcap, hf, hez, ha, hr⟩ := repV_slc hv
      have hlt : i.toNat < es.length := (List.getElem?_eq_some_iff.1 hc).1
      have hne : es ≠ [] := fun e => by subst e; simp at hlt
      obtain ⟨b, o', rfl, hcell⟩ := ha hne
      refine fin_val0 h hK hdst (run b o' _ _ hvx h0 (by omega)) (p := .ept c) (RepD.ept c b (o' + i.toNat * ty.el) (us i.toNat) (fun j hj => ?_) (fun j p hp => hr _ _ c p hc hp)) hw
      rw [hez _ c hc] at hj
      rw [Nat.add_assoc]
      exact hcell i.toNat j hlt hj
    · rename_i j he2
      rw [he2] at hv
      split at hw
      case h_2 => exact hw.elim
      rename_i sz es hH
      split at hw
      case h_2 => exact hw.elim
      rename_i hb
      have hb := Nat.eq_of_beq_eq_true hb
      subst hb
      obtain ⟨⟨h0, h1⟩, hw⟩ := hw
      obtain ⟨ra, hra, hrow⟩ := h.hp j _ hH
      obtain ⟨rb, hrb, hvx⟩ := hv
      change β j = some rb at hrb
      rw [hra] at hrb
      cases hrb
      rcases hrow with ⟨e1, e2⟩ | ⟨b, cap, us, t', e1, _⟩
      · subst e2; simp at h1; omega
      · subst e1
        have hvx : a.eval x = .slice (some ⟨b, 0, none⟩) es.length cap := hvx
        refine fin_val0 h hK hdst (run b 0 _ _ hvx h0 h1) (p := .ptr j i.toNat 0) ⟨_, hra, ?_⟩ hw
        show Value.pointer _ = _
        simp
    · rename_i j lo n he2
      rw [he2] at hv
      split at hw
      case h_2 => exact hw.elim
      rename_i sz es hH
      split at hw
      case h_2 => exact hw.elim
      rename_i hb
      have hb := Nat.eq_of_beq_eq_true hb
      subst hb
      obtain ⟨⟨h0, h1⟩, hw⟩ := hw
      obtain ⟨ra, hra, hrow⟩ := h.hp j _ hH
      obtain ⟨rb, hrb, hvx⟩ := hv
      change β j = some rb at hrb
      rw [hra] at hrb
      cases hrb
      rcases hrow with ⟨e1, e2⟩ | ⟨b, cap, us, t', e1, _⟩
      · subst e1
        have := hvx.2.1
        omega
      · subst e1
        have hvx : lo + n ≤ es.length ∧ ∃ A, a.eval x = .slice A n (cap - lo) ∧ (n = 0 ∨ A = some ⟨b, lo * ty.el, none⟩) := hvx
        obtain ⟨_, A, hvx, hA⟩ := hvx
        have hA := hA.resolve_left (by omega)
        subst hA
        refine fin_val0 h hK hdst (run b (lo * ty.el) _ _ hvx h0 h1) (p := .ptr j (lo + i.toNat) 0) ⟨_, hra, ?_⟩ hw
        show Value.pointer _ = _
        rw [Nat.add_mul]
        rfl
    · exact hw.elim
  · rename_i n q i hk2 he
    rw [hk2] at hk
    rw [he] at hi
    have hi := repV_int hi
    obtain ⟨e, hu, hsz, _, hpos⟩ := hk
    split at hw
    case h_2 => exact hw.elim
    rename_i j q2 off he2
    rw [he2] at hv
    obtain ⟨⟨h0, h1⟩, hw⟩ := hw
    obtain ⟨ra, hra, hvx⟩ := hv
    cases ra with
    | nil_ => exact hvx.elim
    | blk b c s' l =>
      have hvx : a.eval x = _ := hvx
      refine fin_val0 h hK hdst (p := .ptr j q2 (off + i.toNat * ty.el)) (v := .pointer (some ⟨b, q2 * s' + (off + i.toNat * ty.el), none⟩)) ?_ ⟨_, hra, rfl⟩ hw
      have hcond : 0 ≤ i ∧ i < (n : Int) := ⟨h0, h1⟩
      simp [execOp, hop, Instr.indexAt, hi, asIntOf, run_und hu, hvx, Instr.sureAddr, hcond, run_sizeOf hsz, add_none, Nat.add_assoc]
  · exact hw.elim

theorem op_index (hΓ : Γ.Ok) {t : Nat} {x ix : Operand} (hop : o.op = .index t x ix) (h : RepS Γ E β st a w) (hx : okOpd Γ.N x = true) (hix : okOpd Γ.N ix = true) (hw : opW Γ o st k) (hK : Nxt Γ E k K) (hdst : ∀ x, o.dst = some x → x < Γ.N) : o.wp Γ.P a w K Q := by
  unfold opW at hw
  rw [hop] at hw
  dsimp only at hw
  have hv := h.ev hx
  have hi := h.ev hix
  split at hw
  case h_2 => exact hw.elim
  rename_i ty hT
  have hk := (hΓ.ty t ty hT).kind
  unfold KindOk at hk
  split at hw
  · rename_i n cs q i hk2 he1 he2
    rw [hk2] at hk
    rw [he1] at hv
    rw [he2] at hi
    have hi := repV_int hi
    obtain ⟨e, hu, hsz, hagg, hpos⟩ := hk
    have hpos : 0 < ty.el := Nat.le_of_ble_eq_true hpos
    obtain ⟨⟨h0, h1⟩, c, rfl, hw⟩ := hw
    split at hw
    case h_2 => exact hw.elim
    rename_i hcl
    have hcl := Nat.eq_of_beq_eq_true hcl
    obtain ⟨us, hvx, hl⟩ := hv
    have hs := repL_slice hl (i.toNat * ty.el) ty.el
    cases hag : Nat.blt 1 ty.el with
    | true =>
      rw [hag] at hw hagg
      refine fin_val0 h hK hdst (p := .agg _) (v := .agg ((us.drop (i.toNat * ty.el)).take ty.el).toArray) ?_ ⟨_, rfl, hs⟩ (putF_eq hw)
      have hcond : 0 ≤ i ∧ i < (n : Int) := ⟨h0, h1⟩
      have hia : (isAgg e).run Γ.P w = .ok true w := by
        cases hd : Γ.P.underlying e with
        | none => simp [hd] at hagg
        | some d => simp [hd] at hagg; cases d <;> simp [isAggD] at hagg <;> simp [isAgg, run_und hd]
      simp [execOp, hop, Instr.index, hi, asIntOf, run_und hu, hvx, hcond, run_sizeOf hsz, part, hia]
    | false =>
      rw [hag] at hw hagg
      have h1' : ty.el = 1 := by
        have : ¬ 1 < ty.el := fun hlt => by rw [Nat.blt, Nat.ble_eq_true_of_le hlt] at hag; cases hag
        omega
      rw [h1'] at hw hs hsz
      have hcond : 0 ≤ i ∧ i < (n : Int) := ⟨h0, h1⟩
      have hia : (isAgg e).run Γ.P w = .ok false w := by
        cases hd : Γ.P.underlying e with
        | none => simp [hd] at hagg
        | some d => simp [hd] at hagg; cases d <;> simp [isAggD] at hagg <;> simp [isAgg, run_und hd]
      simp only [Nat.mul_one] at hs hw
      cases hu2 : us[i.toNat]? with
      | none =>
        exfalso
        have e1 : (cs.drop i.toNat).take 1 = [] := by
          have : cs.length ≤ i.toNat := by rw [← hl.1]; exact List.getElem?_eq_none_iff.1 hu2
          rw [List.drop_eq_nil_of_le this]; rfl
        rw [h1', Nat.mul_one, e1] at hcl
        cases hcl
      | some u =>
        refine fin_val0 h hK hdst (v := u) ?_ ?_ (putF_eq hw)
        · simp [execOp, hop, Instr.index, hi, asIntOf, run_und hu, hvx, hcond, run_sizeOf hsz, part, hia, hu2]
        · have e2 : (us.drop i.toNat).take 1 = [u] := by
            have hlt := (List.getElem?_eq_some_iff.1 hu2).1
            rw [List.drop_eq_getElem_cons hlt, (List.getElem?_eq_some_iff.1 hu2).2]
            rfl
          rw [e2] at hs
          exact repV_ofCells (n := 1) hs rfl (fun _ => rfl)
  · rename_i b q i hk2 he1 he2
    rw [hk2] at hk
    rw [he1] at hv
    rw [he2] at hi
    have hi := repV_int hi
    have hv := (repV_s_eq hv).1
    obtain ⟨h0, c, hc, hw⟩ := hw
    refine fin_val0 h hK hdst (p := .s (.int .u8 c.toNat)) (v := .int .u8 c.toNat) ?_ (RepD.s _ rfl) hw
    have hb : b[i.toNat]? = some c := by
      have h3 := (List.getElem?_eq_some_iff.1 hc)
      obtain ⟨h4, h5⟩ := h3
      have h6 : i.toNat < b.size := by simpa using h4
      rw [getElem?_pos b i.toNat h6, ← h5]
      rfl
    simp [execOp, hop, Instr.index, hi, asIntOf, run_und hk, hv, h0, hb]
  · exact hw.elim

end
end Go.Vai

/- Each operation's effect on a pure state is its effect in memory: lengths, cuts, literals. No condition. -/
namespace Go.Vai

section
variable {Γ : Ctx} {E : Env} {β : Nat → Option RA} {st : St} {a : Act} {w : World} {o : Oper} {k : St → Prop} {K : Act → World → Prop} {Q : Exit → Act → World → Prop}

theorem evs_ok (h : RepS Γ E β st a w) (T : Nat → Option Ty) : ∀ (xs : List Operand) (ts : List Nat), xs.all (okOpd Γ.N) = true →
    (evs st T xs ts).length = xs.length ∧ ∀ (i : Nat) p x, (evs st T xs ts)[i]? = some p → xs[i]? = some x → RepV w (E.cx β w) p (a.eval x)
  | [], ts, _ => by cases ts <;> exact ⟨rfl, fun i p x hp => by simp [evs] at hp⟩
  | x :: r, [], hx => by
    simp only [List.all_cons, Bool.and_eq_true] at hx
    have ih := evs_ok h T r [] hx.2
    refine ⟨by simp [evs, ih.1], fun i p y hp hy => ?_⟩
    cases i with
    | zero => simp [evs] at hp hy; subst hp; subst hy; exact h.ev hx.1
    | succ i => exact ih.2 i p y (by simpa [evs] using hp) (by simpa using hy)
  | x :: r, t :: ts, hx => by
    simp only [List.all_cons, Bool.and_eq_true] at hx
    have ih := evs_ok h T r ts hx.2
    refine ⟨by simp [evs, ih.1], fun i p y hp hy => ?_⟩
    cases i with
    | zero => simp [evs] at hp hy; subst hp; subst hy; exact repV_typed (h.ev hx.1)
    | succ i => exact ih.2 i p y (by simpa [evs] using hp) (by simpa using hy)

theorem rowLen_ok (h : RepS Γ E β st a w) {p : PV} {v : Value} {n : Int} (hp : RepV w (E.cx β w) p v) (hn : rowLen st p = some n) :
    (∃ b : ByteArray, v = .string b ∧ n = b.size) ∨ ∃ A l c, v = .slice A l c ∧ n = (l : Int) := by
  cases p with
  | s x =>
    have hv := (repV_s_eq hp).1
    subst hv
    cases v <;> simp [rowLen, lenP] at hn
    exact .inl ⟨_, rfl, hn.symm⟩
  | slc sz es full =>
    obtain ⟨A, c, us, hv, _⟩ := repV_slc hp
    simp [rowLen, lenP] at hn
    exact .inr ⟨A, es.length, c, hv, hn.symm⟩
  | nils =>
    have hp : v = .slice none 0 0 := hp
    simp [rowLen, lenP] at hn
    exact .inr ⟨none, 0, 0, hp, by omega⟩
  | xs j q =>
    cases q with
    | none =>
      obtain ⟨ra, hra, hx⟩ := hp
      cases hH : st.H j with
      | none => simp [rowLen, hH] at hn
      | some r =>
        cases r with
        | cell cs => simp [rowLen, hH] at hn
        | row sz es =>
          simp [rowLen, hH] at hn
          obtain ⟨rb, hrb, hrow⟩ := h.hp j _ hH
          change β j = some ra at hra
          rw [hra] at hrb
          cases hrb
          rcases hrow with ⟨e1, e2⟩ | ⟨b, cap, us, t', e1, _⟩
          · subst e1; subst e2
            obtain ⟨A, rfl⟩ := hx
            exact .inr ⟨A, 0, 0, rfl, by simpa using hn.symm⟩
          · subst e1
            have hx : v = .slice (some ⟨b, 0, none⟩) es.length cap := hx
            exact .inr ⟨_, es.length, cap, hx, hn.symm⟩
    | some q =>
      obtain ⟨lo, m⟩ := q
      obtain ⟨ra, hra, hx⟩ := hp
      simp [rowLen, lenP] at hn
      cases ra with
      | nil_ =>
        obtain ⟨h1, h2, A, h3⟩ := hx
        exact .inr ⟨A, 0, 0, h3, by omega⟩
      | blk b c s l =>
        have hx : lo + m ≤ l ∧ ∃ A, v = .slice A m (c - lo) ∧ (m = 0 ∨ A = some ⟨b, lo * s, none⟩) := hx
        obtain ⟨_, A, hx, _⟩ := hx
        exact .inr ⟨_, m, _, hx, hn.symm⟩
  | _ => simp [rowLen, lenP] at hn

theorem op_len (hΓ : Γ.Ok) {c : Call} (hop : o.op = .call c) (hc : c.callee = .builtin .len) (h : RepS Γ E β st a w) (hx : c.args.toList.all (okOpd Γ.N) = true) (hw : opW Γ o st k) (hK : Nxt Γ E k K) (hdst : ∀ x, o.dst = some x → x < Γ.N) : o.wp Γ.P a w K Q := by
  unfold opW at hw
  rw [hop] at hw
  dsimp only at hw
  rw [hc] at hw
  dsimp only at hw
  have he := evs_ok h Γ.T c.args.toList c.argTypes.toList hx
  split at hw
  case h_2 => exact hw.elim
  rename_i t p ht hp
  rw [hp] at he
  split at hw
  case h_2 => exact hw.elim
  rename_i ty hty
  split at hw
  case h_2 => exact hw.elim
  rename_i n hn
  obtain ⟨hl, hv⟩ := he
  match hargs : c.args.toList, hl with
  | [x], _ =>
    rw [hargs] at hv
    have hpv := hv 0 p x rfl rfl
    have hargs' : c.args = #[x] := by rw [← Array.toArray_toList (xs := c.args), hargs]
    have ht' : c.argTypes = #[t] := by rw [← Array.toArray_toList (xs := c.argTypes), ht]
    have hkind := (hΓ.ty t ty hty).kind
    unfold KindOk at hkind
    refine fin_val0 h hK hdst (p := iv n) (v := .int .i64 n) ?_ (RepD.s _ rfl) hw
    unfold lenK at hn
    split at hn
    · rename_i hk
      rw [hk] at hkind
      split at hn
      · cases hn
        have h1 := (repV_s_eq hpv).1
        simp [execOp, hop, resolve, hc, hargs', ht', invoke, Go.builtin, Builtin.len_, run_und hkind, h1, goInt]
      · cases hn
    · rename_i hk
      rw [hk] at hkind
      obtain ⟨e, ez, hu, _⟩ := hkind
      split at hn
      · cases hn
      · rename_i hns
        rcases rowLen_ok h hpv hn with ⟨b, h1, rfl⟩ | ⟨A, l, cp, h1, rfl⟩
        · exfalso
          cases p with
          | s v => exact hns v rfl
          | slc sz es full => obtain ⟨A, c2, us, hv2, _⟩ := repV_slc hpv; rw [h1] at hv2; cases hv2
          | nils => have hpv : a.eval x = .slice none 0 0 := hpv; rw [h1] at hpv; cases hpv
          | xs j q =>
            cases q with
            | none =>
              obtain ⟨ra, _, h2⟩ := hpv
              cases ra with
              | nil_ => obtain ⟨A, h2⟩ := h2; rw [h1] at h2; cases h2
              | blk b c s l => have h2 : a.eval x = _ := h2; rw [h1] at h2; cases h2
            | some q =>
              obtain ⟨ra, _, h2⟩ := hpv
              cases ra with
              | nil_ => obtain ⟨_, _, A, h2⟩ := h2; rw [h1] at h2; cases h2
              | blk b c s l => obtain ⟨_, A, h2, _⟩ := h2; rw [h1] at h2; cases h2
          | _ => simp [rowLen, lenP] at hn
        · simp [execOp, hop, resolve, hc, hargs', ht', invoke, Go.builtin, Builtin.len_, run_und hu, h1, goInt]
    · cases hn

theorem valsOf_ok {cx : Cx} : ∀ {ps : List PV} {vs xs : List Value}, valsOf ps = some vs → xs.length = ps.length → (∀ (i : Nat) p v, ps[i]? = some p → xs[i]? = some v → RepV w cx p v) → xs = vs
  | [], vs, [], h, _, _ => by cases h; rfl
  | [], _, _ :: _, _, hl, _ => by simp at hl
  | .s v :: r, vs, x :: xs, h, hl, hr => by
    simp only [valsOf] at h
    cases hr2 : valsOf r with
    | none => rw [hr2] at h; cases h
    | some ws =>
      rw [hr2] at h
      cases h
      have h1 := (repV_s_eq (hr 0 (.s v) x rfl rfl)).1
      have h2 := valsOf_ok hr2 (by simpa using hl) (fun i p v hp hv => hr (i + 1) p v (by simpa using hp) (by simpa using hv))
      rw [h1, h2]
  | .s _ :: _, _, [], _, hl, _ => by simp at hl
  | .nils :: _, _, _, h, _, _ => by simp [valsOf] at h
  | .slc _ _ _ :: _, _, _, h, _, _ => by simp [valsOf] at h
  | .xs _ _ :: _, _, _, h, _, _ => by simp [valsOf] at h
  | .ptr _ _ _ :: _, _, _, h, _, _ => by simp [valsOf] at h
  | .ept _ :: _, _, _, h, _, _ => by simp [valsOf] at h
  | .clo _ _ :: _, _, _, h, _, _ => by simp [valsOf] at h
  | .agg _ :: _, _, _, h, _, _ => by simp [valsOf] at h
  | .tup _ :: _, _, _, h, _, _ => by simp [valsOf] at h
  | .bad :: _, _, _, h, _, _ => by simp [valsOf] at h

theorem op_semB {c : Call} {b : Builtin} {f : Array TypeId → TypeId → Array Value → Sem Value} (hop : o.op = .call c) (hc : c.callee = .builtin b) (hf : ∀ cs args, Go.builtin b c.argTypes o.type cs args = (do pure (.value (← f c.argTypes o.type args))))
    (h : RepS Γ E β st a w) (hx : c.args.toList.all (okOpd Γ.N) = true)
    (hw : match valsOf (c.args.toList.map st.ev) with | some vs => semW (f c.argTypes o.type vs.toArray) fun v => oneS v fun p => st.putF o.dst p k | none => False) (hK : Nxt Γ E k K) (hdst : ∀ x, o.dst = some x → x < Γ.N) : o.wp Γ.P a w K Q := by
  split at hw
  case h_2 => exact hw.elim
  rename_i vs hvs
  have h1 : c.args.toList.map a.eval = vs := by
    refine valsOf_ok (w := w) (cx := E.cx β w) hvs (by simp) (fun i p v hp hv => ?_)
    rw [List.getElem?_map] at hp hv
    cases hi : c.args.toList[i]? with
    | none => rw [hi] at hp; cases hp
    | some x =>
      rw [hi] at hp hv
      cases hp; cases hv
      exact h.ev (mem_all hx (List.mem_of_getElem? hi))
  have h2 : c.args.map a.eval = vs.toArray := Array.ext' (by simp [← h1])
  refine fin_sem h hK hdst (s := f c.argTypes o.type vs.toArray) ?_ hw
  simp [execOp, hop, resolve, hc, invoke, h2]
  rw [hf]
  simp

end
end Go.Vai

/- Each operation's effect on a pure state is its effect in memory: cuts. No condition. -/
namespace Go.Vai

section
variable {Γ : Ctx} {E : Env} {β : Nat → Option RA} {st : St} {a : Act} {w : World} {o : Oper} {k : St → Prop} {K : Act → World → Prop} {Q : Exit → Act → World → Prop}

/-- What the bounds of a cut come to. -/
theorem cutW_ok (h : RepS Γ E β st a w) {lo hi : Option Operand} (hlo : ∀ x, lo = some x → okOpd Γ.N x = true) (hhi : ∀ x, hi = some x → okOpd Γ.N x = true) {len : Nat} {F : Nat → Option Nat → Prop}
    (hw : cutW (lo.map st.ev) (hi.map st.ev) len F) : ∃ l q, F l q ∧ l ≤ q.getD len ∧ q.getD len ≤ len ∧
      ∀ (isS : Bool) (cap : Nat), len ≤ cap → (Instr.sliceBounds isS len cap (lo.map a.eval) (hi.map a.eval) none).run Γ.P w = .ok (l, q.getD len, cap) w := by
  have hb : ∀ {x : Operand} {q : IntKind} {i : Int}, st.ev x = .s (.int q i) → okOpd Γ.N x = true → a.eval x = .int q i := fun he hx => by
    have := h.ev hx
    rw [he] at this
    exact repV_int this
  cases lo with
  | none =>
    cases hi with
    | none =>
      refine ⟨0, none, hw, by simp, by simp, fun isS cap hc => ?_⟩
      simp [Instr.sliceBounds]
    | some y =>
      simp only [Option.map_none, Option.map_some] at hw
      unfold cutW at hw
      split at hw <;> first | exact hw.elim | skip
      · rename_i h1 h2; cases h2
      · rename_i h1 h2
        cases h2
        split at hw
        case h_2 => exact hw.elim
        rename_i q i he
        obtain ⟨⟨h3, h4⟩, hw⟩ := hw
        have hy := hb he (hhi y rfl)
        refine ⟨0, some i.toNat, hw, by simp, by simp; omega, fun isS cap hc => ?_⟩
        have hcond : 0 ≤ i ∧ i ≤ (cap : Int) := ⟨h3, by omega⟩
        cases isS <;> simp [Instr.sliceBounds, Instr.sliceBound, hy, asIntOf, hcond]
      · rename_i h1 h2; cases h1
      · rename_i h1 h2; cases h1
  | some x =>
    cases hi with
    | none =>
      simp only [Option.map_none, Option.map_some] at hw
      unfold cutW at hw
      split at hw <;> first | exact hw.elim | skip
      · rename_i h1 h2; cases h1
      · rename_i h1 h2; cases h1
      · rename_i h1 h2
        cases h1
        split at hw
        case h_2 => exact hw.elim
        rename_i q i he
        obtain ⟨⟨h3, h4⟩, hw⟩ := hw
        have hx := hb he (hlo x rfl)
        refine ⟨i.toNat, none, hw, by simp; omega, by simp, fun isS cap hc => ?_⟩
        have hcond : 0 ≤ i ∧ i ≤ (len : Int) := ⟨h3, by omega⟩
        simp [Instr.sliceBounds, Instr.sliceBound, hx, asIntOf, hcond]
      · rename_i h1 h2; cases h2
    | some y =>
      simp only [Option.map_some] at hw
      unfold cutW at hw
      split at hw <;> first | exact hw.elim | skip
      · rename_i h1 h2; cases h1
      · rename_i h1 h2; cases h1
      · rename_i h1 h2; cases h2
      · rename_i h1 h2
        cases h1; cases h2
        split at hw
        case h_2 => exact hw.elim
        rename_i q i q2 i2 he he2
        obtain ⟨⟨h3, h4, h5⟩, hw⟩ := hw
        have hx := hb he (hlo x rfl)
        have hy := hb he2 (hhi y rfl)
        refine ⟨i.toNat, some i2.toNat, hw, by simp; omega, by simp; omega, fun isS cap hc => ?_⟩
        have hcond : 0 ≤ i2 ∧ i2 ≤ (cap : Int) := ⟨by omega, by omega⟩
        have hcond2 : 0 ≤ i ∧ i ≤ (i2.toNat : Int) := ⟨h3, by omega⟩
        have hcond3 : ¬ max i2 0 < i := by omega
        cases isS <;> simp [Instr.sliceBounds, Instr.sliceBound, hx, hy, asIntOf, hcond, hcond2, hcond3, h3]

theorem cutE_eq (es : List (List PV)) (l : Nat) (q : Option Nat) (h1 : l ≤ q.getD es.length) : cutE es l q = (es.drop l).take (q.getD es.length - l) := by
  unfold cutE
  split
  · simp
  · simp
  · rename_i l _
    simp only [Option.getD_none]
    rw [List.take_of_length_le (by simp)]
  · rfl

theorem repD_cut {ok : Nat → Nat → Prop} {sz : Nat} {es : List (List PV)} {A : Option Addr} {c : Nat} {us : Nat → Nat → Value} {l n : Nat} (hln : l + n ≤ es.length) (hc : es.length ≤ c) (he : ∀ (i : Nat) e, es[i]? = some e → e.length = sz)
    (ha : es ≠ [] → ∃ b o, A = some ⟨b, o, none⟩ ∧ ∀ i j, i < es.length → j < sz → ok b (o + (i * sz + j)) ∧ w.cell? ⟨b, o + (i * sz + j), none⟩ = some (us i j))
    (hr : ∀ (i j : Nat) e p, es[i]? = some e → e[j]? = some p → RepD w ok p (us i j)) : RepD w ok (.slc sz ((es.drop l).take n) false) (.slice (if c = l then A else A.map (·.add (l * sz))) n (c - l)) := by
  have hlen : ((es.drop l).take n).length = n := by simp; omega
  have hget : ∀ (i : Nat) e, ((es.drop l).take n)[i]? = some e → es[l + i]? = some e := fun i e he => by
    rw [List.getElem?_take] at he
    split at he
    · rw [List.getElem?_drop] at he; exact he
    · cases he
  have := RepD.slc (w := w) (ok := ok) sz ((es.drop l).take n) false (if c = l then A else A.map (·.add (l * sz))) (c - l) (fun i j => us (l + i) j) (by rw [hlen]; omega) (fun e => by cases e) (fun i e h => he _ e (hget i e h))
    (fun hne => ?_) (fun i j e p h1 h2 => hr _ _ e p (hget i e h1) h2)
  · rwa [hlen] at this
  · have hn0 : n ≠ 0 := fun e => by subst e; exact hne (by simp)
    have hes : es ≠ [] := fun e => by subst e; simp at hln; omega
    obtain ⟨b, o', rfl, hcell⟩ := ha hes
    have hcl : ¬ c = l := by omega
    refine ⟨b, o' + l * sz, by rw [if_neg hcl]; simp [add_none], fun i j hi hj => ?_⟩
    rw [hlen] at hi
    have := hcell (l + i) j (by omega) hj
    rw [Nat.add_mul] at this
    have e : o' + l * sz + (i * sz + j) = o' + (l * sz + i * sz + j) := by omega
    rw [e]
    exact this

theorem slice_el {P : Program} {ty : Ty} {t : Nat} (hk : ty.kind = .slice) (h : KindOk P t ty) : ∃ e, P.underlying t = some (.slice e) ∧ (P.info? e).map (·.size) = some ty.el ∧ 0 < ty.el := by
  unfold KindOk at h
  rw [hk] at h
  obtain ⟨e, ez, hu, hinfo, _, _, hpos, _⟩ := h
  refine ⟨e, hu, ?_, Nat.le_of_ble_eq_true hpos⟩
  cases hq : P.info? e with
  | none => simp [hq] at hinfo
  | some i => simp [hq] at hinfo ⊢; exact hinfo.1

theorem op_slice (hΓ : Γ.Ok) {t : Nat} {x : Operand} {lo hi mx : Option Operand} (hop : o.op = .slice t x lo hi mx) (h : RepS Γ E β st a w) (hx : okOpd Γ.N x = true) (hlo : ∀ x, lo = some x → okOpd Γ.N x = true) (hhi : ∀ x, hi = some x → okOpd Γ.N x = true)
    (hw : opW Γ o st k) (hK : Nxt Γ E k K) (hdst : ∀ x, o.dst = some x → x < Γ.N) : o.wp Γ.P a w K Q := by
  unfold opW at hw
  rw [hop] at hw
  dsimp only at hw
  have hv := h.ev hx
  split at hw
  case h_2 => exact hw.elim
  rename_i ty hT
  have hkind := (hΓ.ty t ty hT).kind
  split at hw
  · rename_i b hk he
    unfold KindOk at hkind
    rw [hk] at hkind
    rw [he] at hv
    have hv := (repV_s_eq hv).1
    obtain ⟨l, q, hF, _, _, hrun⟩ := cutW_ok h hlo hhi hw
    refine fin_val0 h hK hdst (p := .s (.string (b.extract l (q.getD b.size)))) (v := .string (b.extract l (q.getD b.size))) ?_ (RepD.s _ rfl) hF
    have := hrun false b.size (Nat.le_refl _)
    simp [execOp, hop, Instr.sliceAt, run_und hkind, Instr.slice, hv, this]
  · rename_i sz es full hk he
    obtain ⟨e, hu, hsz, _⟩ := slice_el hk hkind
    rw [he] at hv
    split at hw
    case h_2 => exact hw.elim
    rename_i hb
    have hb := Nat.eq_of_beq_eq_true hb
    subst hb
    obtain ⟨A, c, us, hvx, hcap, hf, hez, ha, hr⟩ := repV_slc hv
    obtain ⟨l, q, hF, h1, h2, hrun⟩ := cutW_ok h hlo hhi hw
    have hrun := hrun true c hcap
    refine fin_val0 h hK hdst (v := .slice (if c = l then A else A.map (·.add (l * ty.el))) (q.getD es.length - l) (c - l)) ?_ ?_ hF
    · simp [execOp, hop, Instr.sliceAt, run_und hu, Instr.slice, hvx, hrun, run_sizeOf hsz]
    · rw [cutE_eq es l q h1]
      exact repD_cut (by omega) hcap hez ha hr
  · rename_i j hk he
    obtain ⟨e, hu, hsz, _⟩ := slice_el hk hkind
    rw [he] at hv
    split at hw
    case h_2 => exact hw.elim
    rename_i sz es d hH hd
    split at hw
    case h_2 => exact hw.elim
    rename_i hb
    have hb := Nat.eq_of_beq_eq_true hb
    subst hb
    obtain ⟨l, q, hF, h1, h2, hrun⟩ := cutW_ok h hlo hhi hw
    obtain ⟨ra, hra, hrow⟩ := h.hp j _ hH
    obtain ⟨rb, hrb, hvx⟩ := hv
    change β j = some rb at hrb
    rw [hra] at hrb
    cases hrb
    -- the cut as a value
    have hval : ∃ v, (execOp a.eval o).run Γ.P w = .ok (.value v) w ∧ (match ra with | .nil_ => ∃ A, v = .slice A 0 0 | .blk b cap _ _ => ∃ A, v = .slice A (q.getD es.length - l) (cap - l) ∧ (q.getD es.length - l = 0 ∨ A = some ⟨b, l * ty.el, none⟩)) ∧
        (∀ b cap s len, ra = .blk b cap s len → l = 0 → v = .slice (some ⟨b, 0, none⟩) (q.getD es.length) cap) := by
      rcases hrow with ⟨e1, e2⟩ | ⟨b, cap, us, t', e1, e2, e3, e4, e5, e6⟩
      · subst e1; subst e2
        obtain ⟨A, hvx⟩ := hvx
        simp only [List.length_nil] at h1 h2 hrun
        have hrun := hrun true 0 (Nat.le_refl _)
        have hl0 : l = 0 := by omega
        have hq0 : q.getD 0 = 0 := by omega
        subst hl0
        rw [hq0] at hrun
        refine ⟨.slice A 0 0, ?_, ⟨A, rfl⟩, fun b cap s len e => by cases e⟩
        simp [execOp, hop, Instr.sliceAt, run_und hu, Instr.slice, hvx, hrun, run_sizeOf hsz]
      · subst e1
        have hvx : a.eval x = .slice (some ⟨b, 0, none⟩) es.length cap := hvx
        have hrun := hrun true cap e4
        refine ⟨.slice (if cap = l then some ⟨b, 0, none⟩ else some ⟨b, l * ty.el, none⟩) (q.getD es.length - l) (cap - l), ?_, ?_, ?_⟩
        · simp [execOp, hop, Instr.sliceAt, run_und hu, Instr.slice, hvx, hrun, run_sizeOf hsz, add_none]
        · refine ⟨_, rfl, ?_⟩
          by_cases hcl : cap = l
          · exact .inl (by omega)
          · right; rw [if_neg hcl]
        · intro b' cap' s' len' e hl0
          cases e
          subst hl0
          split <;> simp
    obtain ⟨v, hrunv, hv1, hv2⟩ := hval
    split at hF
    · -- cut in place
      split at hF
      case h_2 => exact hF.elim
      rename_i qn hmv
      have hq : qn ≤ es.length := by simpa using h2
      have hlen : (es.take qn).length = qn := by simp; omega
      have hget : ∀ (i : Nat) e, (es.take qn)[i]? = some e → es[i]? = some e := fun i e he => by
        rw [List.getElem?_take] at he
        split at he
        · exact he
        · cases he
      have hfx : E.fx j = none := fx_may h hmv
      rcases hrow with ⟨e1, e2⟩ | ⟨b, cap, us, t', e1, e2, e3, e4, e5, e6⟩
      · subst e1; subst e2
        have h3 := h.setRow j (.row ty.el (List.take qn [])) .nil_ (w' := w) rfl rfl rfl (Nat.le_refl _) (fun b hb _ => rfl) (fun b c s l e => by cases e) hfx (fun _ => .inl ⟨rfl, by simp⟩)
        have h4 := h3.put (d := some d) (p := .xs j none) (v := v) ⟨.nil_, by show upd β j _ j = _; rw [upd_at, if_pos rfl], hv1⟩ (fun x hx => hdst x (hd.trans hx))
        have h5 : Rep Γ E ⟨upd (st.kill j).fr d (.xs j none), upd (st.kill j).H j (some (.row ty.el (List.take qn [])))⟩ (a.put o.dst v) w := ⟨_, by rw [hd]; exact h4⟩
        exact wp_value hrunv (hK _ _ _ h5 hF)
      · subst e1
        have h3 := h.setRow j (.row ty.el (es.take qn)) (.blk b cap ty.el qn) (w' := w) rfl rfl rfl (Nat.le_refl _) (fun b hb _ => rfl)
          (fun b2 c2 s2 l2 e => by cases e; exact ⟨(h.own j b cap ty.el es.length hra).2, .inr ⟨_, _, _, hra⟩⟩) hfx
          (fun hm => .inr ⟨b, cap, us, t', by rw [hlen], e2, e3, by rw [hlen]; omega, fun i e he => e5 i e (hget i e he), fun i r e p he hp => by
            obtain ⟨u, hu, hdd⟩ := e6 i r e p (hget i e he) hp
            exact ⟨u, hu, RepD.mono hm.cell hdd⟩⟩)
        have hv3 := hv2 b cap ty.el es.length rfl rfl
        have h4 := h3.put (d := some d) (p := .xs j none) (v := v) ⟨_, by show upd β j _ j = _; rw [upd_at, if_pos rfl], by simpa using hv3⟩ (fun x hx => hdst x (hd.trans hx))
        have h5 : Rep Γ E ⟨upd (st.kill j).fr d (.xs j none), upd (st.kill j).H j (some (.row ty.el (es.take qn)))⟩ (a.put o.dst v) w := ⟨_, by rw [hd]; exact h4⟩
        exact wp_value hrunv (hK _ _ _ h5 hF)
    · have h3 : RepV w (E.cx β w) (.xs j (some (l, q.getD es.length - l))) v := by
        refine ⟨ra, hra, ?_⟩
        rcases hrow with ⟨e1, e2⟩ | ⟨b, cap, us, t', e1, e2, e3, e4, e5, e6⟩
        · subst e1; subst e2
          simp only [List.length_nil] at h1 h2 ⊢
          exact ⟨by omega, by omega, hv1⟩
        · subst e1
          exact ⟨by omega, hv1⟩
      exact fin_val0 h hK hdst hrunv h3 hF
  · exact hw.elim

end
end Go.Vai

/- Each operation's effect on a pure state is its effect in memory: literals. No condition. -/
namespace Go.Vai

section
variable {Γ : Ctx} {E : Env} {β : Nat → Option RA} {st : St} {a : Act} {w : World} {o : Oper} {k : St → Prop} {K : Act → World → Prop} {Q : Exit → Act → World → Prop}

def setV (us : List Value) (off : Nat) : List Value → List Value
  | [] => us
  | v :: vs => setV (us.set off v) (off + 1) vs

theorem setV_length : ∀ (vs us : List Value) (off : Nat), (setV us off vs).length = us.length
  | [], _, _ => rfl
  | v :: vs, us, off => by rw [setV, setV_length vs]; simp
theorem setCells_length : ∀ (vs cs : List PV) (off : Nat), (setCells cs off vs).length = cs.length
  | [], _, _ => rfl
  | v :: vs, cs, off => by rw [setCells, setCells_length vs]; simp

theorem fill_fold (off : Nat) : ∀ (vs : List Value) (j : Nat) (cs : Array Value), ((vs.zipIdx j).foldl (fun (cs : Array Value) (c, j) => cs.setIfInBounds (off + j) c) cs).toList = setV cs.toList (off + j) vs
  | [], _, _ => rfl
  | v :: vs, j, cs => by
    rw [List.zipIdx_cons, List.foldl_cons, fill_fold off vs (j + 1)]
    simp [setV, Nat.add_assoc]

theorem repL_set {cx : Cx} {cs : List PV} {us : List Value} (h : RepL w cx cs us) (i : Nat) {p : PV} {v : Value} (hp : RepC w cx p v ∧ v.oneCell' = true) : RepL w cx (cs.set i p) (us.set i v) := by
  refine ⟨by simp [h.1], fun q c u hc hu => ?_⟩
  rw [List.getElem?_set] at hc hu
  by_cases hq : i = q
  · rw [if_pos hq] at hc hu
    split at hc
    · rename_i h1
      rw [h.1, if_pos h1] at hu
      cases hc; cases hu
      exact hp
    · cases hc
  · rw [if_neg hq] at hc hu
    exact h.2 q c u hc hu
theorem repL_setV {cx : Cx} : ∀ {ps : List PV} {vs : List Value} {cs : List PV} {us : List Value} (off : Nat), RepL w cx cs us → RepL w cx ps vs → RepL w cx (setCells cs off ps) (setV us off vs)
  | [], [], _, _, _, h, _ => h
  | [], _ :: _, _, _, _, _, h => by simp [RepL] at h
  | _ :: _, [], _, _, _, _, h => by simp [RepL] at h
  | p :: ps, v :: vs, cs, us, off, h, h2 => by
    rw [repL_cons] at h2
    exact repL_setV (off + 1) (repL_set h off h2.1) h2.2

theorem fillP_ok {cx : Cx} {place : Nat → Option (Nat × Nat)} {F : List PV → Prop} : ∀ {ps : List (Nat × List PV)} {vs : List (Nat × Value)} {cs : List PV} {us : Array Value},
    RepL w cx cs us.toList → vs.length = ps.length → (∀ (i : Nat) p v, ps[i]? = some p → vs[i]? = some v → v.1 = p.1 ∧ RepL w cx p.2 v.2.cells.toList) → fillP place cs ps F →
    ∃ cs' us', F cs' ∧ Instr.fill place us vs = some us' ∧ RepL w cx cs' us'.toList
  | [], [], cs, us, h, _, _, hF => ⟨cs, us, hF, rfl, h⟩
  | [], _ :: _, _, _, _, hl, _, _ => by simp at hl
  | _ :: _, [], _, _, _, hl, _, _ => by simp at hl
  | (i, p) :: ps, (i', v) :: vs, cs, us, h, hl, hr, hF => by
    have h0 := hr 0 (i, p) (i', v) rfl rfl
    obtain ⟨rfl, h0⟩ : i' = i ∧ _ := h0
    unfold fillP at hF
    split at hF
    case h_1 => exact hF.elim
    rename_i off size hpl
    split at hF
    case h_2 => exact hF.elim
    rename_i hb
    simp only [Bool.and_eq_true] at hb
    have hb1 := Nat.eq_of_beq_eq_true hb.1
    have hb2 := Nat.le_of_ble_eq_true hb.2
    have hs1 : v.cells.size = p.length := by have := h0.1; simpa using this
    have hs2 : us.size = cs.length := by have := h.1; simpa using this
    have hcond : ¬ ((decide (v.cells.size ≠ size) || decide (off + v.cells.size > us.size)) = true) := by
      simp; omega
    unfold Instr.fill
    rw [hpl]
    simp only []
    rw [if_neg (by simp at hcond ⊢; omega)]
    refine fillP_ok (ps := ps) ?_ (by simpa using hl) (fun j q u h1 h2 => hr (j + 1) q u (by simpa using h1) (by simpa using h2)) hF
    have e : (v.cells.zipIdx.foldl (fun cs (c, j) => cs.setIfInBounds (off + j) c) us).toList = setV us.toList off v.cells.toList := by
      have := fill_fold off v.cells.toList 0 us
      simp only [Nat.add_zero] at this
      rw [← this]
      congr 1
      have hz : v.cells.zipIdx = (v.cells.toList.zipIdx).toArray := Array.ext' (by simp)
      rw [hz]
      simp only [List.size_toArray, List.length_zipIdx, Array.length_toList, List.foldl_toArray']
    rw [e]
    exact repL_setV off h h0

theorem op_build (hΓ : Γ.Ok) {t : Nat} {parts : Array (Nat × Operand)} (hop : o.op = .build t parts) (h : RepS Γ E β st a w) (hx : (parts.toList.map (·.2)).all (okOpd Γ.N) = true)
    (hw : opW Γ o st k) (hK : Nxt Γ E k K) (hdst : ∀ x, o.dst = some x → x < Γ.N) : o.wp Γ.P a w K Q := by
  unfold opW at hw
  rw [hop] at hw
  dsimp only at hw
  split at hw
  case h_2 => exact hw.elim
  rename_i ty hT
  have hty := hΓ.ty t ty hT
  have hkind := hty.kind
  obtain ⟨z, hz1, hz2⟩ := hty.run_zero (w := w)
  have hz : RepL w (E.cx β w) ty.zero z.cells.toList := by rw [hz2]; exact repL_zero hty.zok
  have hparts : (parts.toList.all fun p => okV (st.ev p.2)) = true → ∀ (i : Nat) p v, (parts.toList.map fun p => (p.1, cellsOf (st.ev p.2)))[i]? = some p → (parts.toList.map fun p => (p.1, a.eval p.2))[i]? = some v → v.1 = p.1 ∧ RepL w (E.cx β w) p.2 v.2.cells.toList := by
    intro hall i p v hp hv
    rw [List.getElem?_map] at hp hv
    cases hi : parts.toList[i]? with
    | none => rw [hi] at hp; cases hp
    | some q =>
      rw [hi] at hp hv
      cases hp; cases hv
      have hm := List.mem_of_getElem? hi
      exact ⟨rfl, repV_cells (List.all_eq_true.1 hall q hm) (h.ev (mem_all hx (List.mem_map_of_mem hm)))⟩
  have hmap : (parts.map fun (p : Nat × Operand) => (p.1, a.eval p.2)).toList = parts.toList.map fun p => (p.1, a.eval p.2) := by simp
  split at hw
  · rename_i hk
    unfold KindOk at hkind
    rw [hk] at hkind
    obtain ⟨fs, hu, hf, _⟩ := hkind
    split at hw
    case h_2 => exact hw.elim
    rename_i hall
    obtain ⟨cs', us', hF, hfill, hrep⟩ := fillP_ok (vs := parts.toList.map fun p => (p.1, a.eval p.2)) hz (by simp) (hparts hall) hw
    obtain ⟨places, hpl1, hpl2⟩ : ∃ places : Array (Nat × Nat), ((fs.mapM fun f => (do pure (f.offset, ← sizeOf f.type) : Sem (Nat × Nat))).run Γ.P w = .ok places w) ∧ places.toList = ty.flds := by
      have gen : ∀ (l : List Field) (r : List (Nat × Nat)), (l.map fun f => (f.offset, (Γ.P.info? f.type).map (·.size))) = r.map (fun x => (x.1, some x.2)) →
          (l.mapM fun f => (do pure (f.offset, ← sizeOf f.type) : Sem (Nat × Nat))).run Γ.P w = .ok r w := by
        intro l
        induction l with
        | nil => intro r hr; cases r with
          | nil => rfl
          | cons _ _ => cases hr
        | cons f l ih =>
          intro r hr
          cases r with
          | nil => cases hr
          | cons x r =>
            simp only [List.map_cons, List.cons.injEq, Prod.mk.injEq] at hr
            obtain ⟨⟨h1, h2⟩, h3⟩ := hr
            have := ih r h3
            have h4 := run_sizeOf (P := Γ.P) (w := w) h2
            have h5 : (do pure (f.offset, ← sizeOf f.type) : Sem (Nat × Nat)).run Γ.P w = .ok x w := by simp [h4, h1]
            rw [List.mapM_cons, Sem.run_bind, h5, Result.andThen, Sem.run_bind, this]
            rfl
      refine ⟨ty.flds.toArray, ?_, by simp⟩
      have := gen fs.toList ty.flds hf
      rw [Array.mapM_eq_mapM_toList]
      show ((List.mapM _ _ : Sem _).bind _).run Γ.P w = _
      rw [show ∀ (x : Sem (List (Nat × Nat))) f, (x.bind f).run Γ.P w = (x.run Γ.P w).andThen fun a w' => (f a : Sem (Array (Nat × Nat))).run Γ.P w' from fun x f => Sem.run_bind _ _ x f, this]
      rfl
    refine fin_val0 h hK hdst (p := .agg cs') (v := .agg us') ?_ ⟨us'.toList, by simp, hrep⟩ (putF_eq hF)
    have hget : (fun (i : Nat) => places[i]?) = fun i => ty.flds[i]? := by
      funext i
      rw [← hpl2]; simp
    have hpl3 : (Array.mapM (fun (f : Field) => Prod.mk f.offset <$> sizeOf f.type) fs).run Γ.P w = .ok places w := by simpa only [bind_pure_comp] using hpl1
    simp [execOp, hop, Instr.build, hz1, run_und hu, hpl3, hget, hfill]
  · rename_i n hk
    unfold KindOk at hkind
    rw [hk] at hkind
    obtain ⟨e, hu, hsz, _⟩ := hkind
    split at hw
    case h_2 => exact hw.elim
    rename_i hall
    obtain ⟨cs', us', hF, hfill, hrep⟩ := fillP_ok (vs := parts.toList.map fun p => (p.1, a.eval p.2)) hz (by simp) (hparts hall) hw
    refine fin_val0 h hK hdst (p := .agg cs') (v := .agg us') ?_ ⟨us'.toList, by simp, hrep⟩ (putF_eq hF)
    simp [execOp, hop, Instr.build, hz1, run_und hu, run_sizeOf hsz, hfill]
  · exact hw.elim

end
end Go.Vai

/- Each operation's effect on a pure state is its effect in memory: slices' literals, append. No condition. -/
namespace Go.Vai

section
variable {Γ : Ctx} {E : Env} {β : Nat → Option RA} {st : St} {a : Act} {w : World} {o : Oper} {k : St → Prop} {K : Act → World → Prop} {Q : Exit → Act → World → Prop}

theorem setV_mid (pre mid post : List Value) : ∀ (vs : List Value), mid.length = vs.length → setV (pre ++ (mid ++ post)) pre.length vs = pre ++ (vs ++ post) := by
  intro vs
  induction vs generalizing pre mid with
  | nil => intro h; simp at h; subst h; simp [setV]
  | cons v vs ih =>
    intro h
    match mid, h with
    | m :: mid, h =>
      rw [setV]
      have e : (pre ++ (m :: mid ++ post)).set pre.length v = (pre ++ [v]) ++ (mid ++ post) := by simp
      rw [e]
      have := ih (pre ++ [v]) mid (by simpa using h)
      simp at this
      simpa using this

/-- A literal's cells: every place is filled, one after another. -/
theorem litEs_ok {cx : Cx} {sz : Nat} {F : List (List PV) → Prop} : ∀ {n i : Nat} {ps : List (Nat × PV)} {vs : List (Nat × Value)} {pre : List Value} {us : Array Value},
    us.toList.length = i * sz + n * sz → pre.length = i * sz → us.toList.take (i * sz) = pre → vs.length = ps.length →
    (∀ (j : Nat) p v, ps[j]? = some p → vs[j]? = some v → v.1 = p.1 ∧ RepV w cx p.2 v.2) → litEs ps sz n i F →
    ∃ es us', F es ∧ es.length = n ∧ Instr.fill (fun i => some (i * sz, sz)) us vs = some us' ∧ (∃ rest, us'.toList = pre ++ rest ∧ rest.length = n * sz ∧
      (∀ (q : Nat) e, es[q]? = some e → e.length = sz) ∧ ∀ (q r : Nat) e p, es[q]? = some e → e[r]? = some p → ∃ u, rest[q * sz + r]? = some u ∧ RepD w cx.ok p u)
  | 0, i, ps, vs, pre, us, hl, hpl, hpre, hvl, _, hF => by
    cases ps with
    | cons _ _ => exact hF.elim
    | nil =>
      cases vs with
      | cons _ _ => simp at hvl
      | nil =>
        refine ⟨[], us, hF, rfl, rfl, [], ?_, by simp, fun q e he => by simp at he, fun q r e p he => by simp at he⟩
        rw [← hpre, List.take_of_length_le (by omega)]; simp
  | n + 1, i, ps, vs, pre, us, hl, hpl, hpre, hvl, hr, hF => by
    cases ps with
    | nil => exact hF.elim
    | cons p0 ps =>
      obtain ⟨j, p⟩ := p0
      cases vs with
      | nil => simp at hvl
      | cons v0 vs =>
        obtain ⟨j', v⟩ := v0
        obtain ⟨h1, h2⟩ : j' = j ∧ _ := hr 0 _ _ rfl rfl
        subst h1
        rw [litEs] at hF
        split at hF
        case h_2 => exact hF.elim
        rename_i hb
        simp only [Bool.and_eq_true] at hb
        have hb1 := Nat.eq_of_beq_eq_true hb.1
        have hb2 := Nat.eq_of_beq_eq_true hb.2.1
        have hD := hb.2.2
        subst hb1
        have hok : okV p = true := by
          cases p <;> first | rfl | (simp [cellsOf, isD] at hD; done)
        have hc := repV_cells hok h2
        have hvl2 : v.cells.toList.length = sz := by rw [hc.1, hb2]
        have hvs : v.cells.size = sz := by simpa using hvl2
        have hus : us.size = j' * sz + (n + 1) * sz := by simpa using hl
        have hmul : (n + 1) * sz = n * sz + sz := by rw [Nat.add_mul, Nat.one_mul]
        unfold Instr.fill
        simp only []
        rw [if_neg (by simp; omega)]
        have e : (v.cells.zipIdx.foldl (fun cs (c, j) => cs.setIfInBounds (j' * sz + j) c) us).toList = setV us.toList (j' * sz) v.cells.toList := by
          have := fill_fold (j' * sz) v.cells.toList 0 us
          simp only [Nat.add_zero] at this
          rw [← this]
          congr 1
          have hz : v.cells.zipIdx = (v.cells.toList.zipIdx).toArray := Array.ext' (by simp)
          rw [hz]
          simp only [List.size_toArray, List.length_zipIdx, Array.length_toList, List.foldl_toArray']
        have e2 : setV us.toList (j' * sz) v.cells.toList = pre ++ (v.cells.toList ++ us.toList.drop (j' * sz + sz)) := by
          obtain ⟨mid, post, hm1, hm2, hm3⟩ : ∃ mid post, us.toList = pre ++ (mid ++ post) ∧ mid.length = sz ∧ post = us.toList.drop (j' * sz + sz) :=
            ⟨(us.toList.drop (j' * sz)).take sz, us.toList.drop (j' * sz + sz), by rw [← List.drop_drop, List.take_append_drop, ← hpre, List.take_append_drop], by simp; omega, rfl⟩
          rw [← hm3, hm1, ← hpl]
          exact setV_mid pre mid post v.cells.toList (by rw [hvl2, hm2])
        rw [e2] at e
        have hmul2 : (j' + 1) * sz = j' * sz + sz := by rw [Nat.add_mul, Nat.one_mul]
        obtain ⟨es, us', hF2, hel, hfill, rest, hr1, hr2, hr3, hr4⟩ := litEs_ok (n := n) (i := j' + 1) (ps := ps) (vs := vs) (pre := pre ++ v.cells.toList)
          (us := v.cells.zipIdx.foldl (fun cs (c, j) => cs.setIfInBounds (j' * sz + j) c) us)
          (by rw [e]; simp [hpl, hvs]; omega) (by simp [hpl, hvs]; omega) (by rw [e, ← List.append_assoc, List.take_append_of_le_length (by simp [hpl, hvs]; omega), List.take_of_length_le (by simp [hpl, hvs]; omega)])
          (by simpa using hvl) (fun q x y hx hy => hr (q + 1) x y (by simpa using hx) (by simpa using hy)) hF
        refine ⟨cellsOf p :: es, us', hF2, by simp [hel], hfill, v.cells.toList ++ rest, by rw [hr1]; simp, by simp [hvs, hr2]; omega, ?_, ?_⟩
        · intro q x hx
          cases q with
          | zero => simp at hx; subst hx; exact hb2
          | succ q => exact hr3 q x (by simpa using hx)
        · intro q r x y hx hy
          cases q with
          | zero =>
            simp at hx; subst hx
            have hrl : r < (cellsOf p).length := (List.getElem?_eq_some_iff.1 hy).1
            have hrl2 : r < v.cells.toList.length := by omega
            refine ⟨v.cells.toList[r], ?_, ?_⟩
            · rw [Nat.zero_mul, Nat.zero_add, List.getElem?_append_left hrl2]; simp
            · exact isD_repD (List.all_eq_true.1 hD y (List.mem_of_getElem? hy)) (hc.2 r y _ hy (List.getElem?_eq_getElem hrl2)).1
          | succ q =>
            obtain ⟨u, hu, hd⟩ := hr4 q r x y (by simpa using hx) hy
            refine ⟨u, ?_, hd⟩
            have hq : (q + 1) * sz = q * sz + sz := by rw [Nat.add_mul, Nat.one_mul]
            rw [List.getElem?_append_right (by rw [hvl2]; omega), hvl2, hq, show q * sz + sz + r - sz = q * sz + r by omega]
            exact hu

theorem slice_zero {P : Program} {w : World} {ty : Ty} {t : Nat} (hk : ty.kind = .slice) (h : KindOk P t ty) : ∃ e i z, P.underlying t = some (.slice e) ∧ P.info? e = some i ∧ i.zero = some z ∧ i.size = ty.el ∧ i.bytes = ty.eb ∧ z.cells.toList.length = ty.el ∧ (∀ u ∈ z.cells.toList, u.oneCell' = true) ∧ 0 < ty.el ∧ ty.eb ≤ 1024 := by
  unfold KindOk at h
  rw [hk] at h
  obtain ⟨e, ez, hu, hinfo, h1, h2, hpos, hb⟩ := h
  cases hq : P.info? e with
  | none => simp [hq] at hinfo
  | some i =>
    cases hz : i.zero with
    | none => simp [hq, hz] at hinfo
    | some z =>
      simp [hq, hz] at hinfo
      obtain ⟨h3, h4, h5⟩ := hinfo
      refine ⟨e, i, z, hu, hq, hz, h3, h4, ?_, ?_, Nat.le_of_ble_eq_true hpos, Nat.le_of_ble_eq_true hb⟩
      · rw [← h1, ← h5]
      · intro u hu
        have : u ∈ ez := by rw [← h5]; exact hu
        exact List.all_eq_true.1 h2 u this

/-- A new row. -/
theorem RepS.newRow (h : RepS Γ E β st a w) (d : Nat) (hdN : d < Γ.N) (sz : Nat) (es : List (List PV)) (us : List Value) (cap : Nat) {w1 : World} (hw1 : ∃ n, w1 = { w with drawn := n }) (t : Nat) (hsz : us.length = cap * sz) (hcap : es.length ≤ cap) (hez : ∀ (i : Nat) e, es[i]? = some e → e.length = sz)
    (hr : ∀ (i j : Nat) e p, es[i]? = some e → e[j]? = some p → ∃ u, us[i * sz + j]? = some u ∧ RepD w (E.cx β w).ok p u) :
    RepS Γ E (upd β (lid d) (some (.blk w.heap.size cap sz es.length))) (st.new d (.row sz es) (.xs (lid d) none)) (a.put (some d) (.slice (some ⟨w.heap.size, 0, none⟩) es.length cap)) (w1.alloc (.cells us.toArray t)) := by
  obtain ⟨n, rfl⟩ := hw1
  have h0 := h.drew n
  have h1 := h0.setRow (lid d) (.row sz es) (.blk w.heap.size cap sz es.length) (w' := ({ w with drawn := n } : World).alloc (.cells us.toArray t)) rfl rfl rfl (by simp) (fun b hb _ => heap_alloc_old ({ w with drawn := n } : World) _ hb)
    (fun b c s l e => by injection e with e1; subst e1; simp) (fx_local h (by simp [lid]))
    (fun hm => .inr ⟨w.heap.size, cap, us.toArray, t, rfl, heap_alloc_new ({ w with drawn := n } : World) _, by simpa using hsz, hcap, hez, fun i j e p he hp => by
      obtain ⟨u, hu, hd⟩ := hr i j e p he hp
      refine ⟨u, by simpa using hu, RepD.mono hm.cell ?_⟩
      exact RepD.mono (w := w) (ok := (E.cx β w).ok) (w' := { w with drawn := n }) (ok' := (E.cx β { w with drawn := n }).ok) (fun b o v h1 h2 => ⟨h1, h2⟩) hd⟩)
  exact h1.put (d := some d) (p := .xs (lid d) none) (v := .slice (some ⟨w.heap.size, 0, none⟩) es.length cap) ⟨_, by show upd β (lid d) _ (lid d) = _; rw [upd_at, if_pos rfl], rfl⟩ (fun x hx => by cases hx; exact hdN)

/-- A new row that is data at once. -/
theorem RepS.newData (h : RepS Γ E β st a w) (d : Option Nat) (hdst : ∀ x, d = some x → x < Γ.N) (sz : Nat) (es : List (List PV)) (us : List Value) (t : Nat) (hez : ∀ (i : Nat) e, es[i]? = some e → e.length = sz)
    (hr : ∀ (i j : Nat) e p, es[i]? = some e → e[j]? = some p → ∃ u, us[i * sz + j]? = some u ∧ RepD w (E.cx β w).ok p u) :
    Rep Γ E (st.put d (.slc sz es true)) (a.put d (.slice (some ⟨w.heap.size, 0, none⟩) es.length es.length)) (w.alloc (.cells us.toArray t)) := by
  have hnb : ¬ onB β w.heap.size := fun ⟨q, c, s, l, hq⟩ => by have := (h.own q _ c s l hq).2; omega
  have hm : Move w (w.alloc (.cells us.toArray t)) (E.cx β w) (E.cx β (w.alloc (.cells us.toArray t))) := move_grown h (by simp) (fun b hb _ => heap_alloc_old w _ hb) (fun b _ hb => hb)
  have h1 : RepS Γ E β st a (w.alloc (.cells us.toArray t)) := by
    refine { size := h.size, oth := h.oth.grown rfl (by simp) (fun b hb _ => heap_alloc_old w _ hb) (fun b _ hb => hb), frv := fun s v hv => RepV.mono hm (fun _ _ => rfl) (h.frv s v hv), hp := fun j x hj => ?_, dom := h.dom, inj := h.inj, own := fun j b c s l hj => ⟨(h.own j b c s l hj).1, Nat.lt_of_lt_of_le (h.own j b c s l hj).2 (by simp)⟩, keeps := ⟨h.keeps.os, h.keeps.tape, h.keeps.output, Nat.le_trans h.keeps.size (by simp), fun b hb hn => (heap_alloc_old w _ (Nat.lt_of_lt_of_le hb h.keeps.size)).trans (h.keeps.block b hb hn)⟩, okb := h.okb, hbb := h.hbb, fix := h.fix, fxm := h.fxm }
    obtain ⟨rb, h1, h2⟩ := h.hp j x hj
    exact ⟨rb, h1, RepRow.mono hm (fun _ _ => rfl) (fun b c s l e => by subst e; exact heap_alloc_old w _ (h.own j b c s l h1).2) h2⟩
  refine ⟨β, h1.put ?_ hdst⟩
  show RepD _ _ _ _
  refine RepD.slc sz es true _ es.length (fun i j => us.getD (i * sz + j) undef) (Nat.le_refl _) (fun _ => rfl) hez (fun _ => ⟨w.heap.size, 0, rfl, fun i j hi hj => ⟨.inr ⟨h.keeps.size, by simp, hnb⟩, ?_⟩⟩) (fun i j e p he hp => ?_)
  · have he : es[i]? = some es[i] := by simp [hi]
    have hje : j < es[i].length := by rw [hez i _ he]; exact hj
    obtain ⟨u, hu, _⟩ := hr i j _ es[i][j] he (by simp [hje])
    show (match (w.alloc (.cells us.toArray t)).heap[w.heap.size]? with | some (.cells c _ _) => c[0 + (i * sz + j)]? | _ => none) = _
    rw [heap_alloc_new]
    simp [hu]
  · obtain ⟨u, hu, hd⟩ := hr i j e p he hp
    have : us.getD (i * sz + j) undef = u := by simp [hu]
    rw [this]
    exact RepD.mono hm.cell hd

theorem op_buildSlice (hΓ : Γ.Ok) {t len : Nat} {parts : Array (Nat × Operand)} (hop : o.op = .buildSlice t len parts) (h : RepS Γ E β st a w) (hx : (parts.toList.map (·.2)).all (okOpd Γ.N) = true)
    (hw : opW Γ o st k) (hK : Nxt Γ E k K) (hdst : ∀ x, o.dst = some x → x < Γ.N) : o.wp Γ.P a w K Q := by
  unfold opW at hw
  rw [hop] at hw
  dsimp only at hw
  split at hw
  case h_2 => exact hw.elim
  rename_i ty d hT hd
  have hty := hΓ.ty t ty hT
  have hkind := hty.kind
  split at hw
  case h_2 => exact hw.elim
  rename_i hk
  obtain ⟨e, i, z, hu, hi, hz, hsz, hby, hzl, hz1, hpos, hb⟩ := slice_zero (w := w) hk hkind
  split at hw
  case h_1 => exact hw.elim
  rename_i hbig
  have hbig := Nat.le_of_ble_eq_true hbig
  have hparts : ∀ (i : Nat) p v, (parts.toList.map fun p => (p.1, st.ev p.2))[i]? = some p → (parts.toList.map fun p => (p.1, a.eval p.2))[i]? = some v → v.1 = p.1 ∧ RepV w (E.cx β w) p.2 v.2 := by
    intro i p v hp hv
    rw [List.getElem?_map] at hp hv
    cases hi : parts.toList[i]? with
    | none => rw [hi] at hp; cases hp
    | some q =>
      rw [hi] at hp hv
      cases hp; cases hv
      exact ⟨rfl, h.ev (mem_all hx (List.mem_map_of_mem (List.mem_of_getElem? hi)))⟩
  obtain ⟨zs, hzs⟩ : ∃ zs : Array Value, zs = (if len * ty.el = 0 then #[] else z.cells) := ⟨_, rfl⟩
  obtain ⟨es, us', hF, hel, hfill, rest, hr1, hr2, hr3, hr4⟩ := litEs_ok (w := w) (cx := E.cx β w) (pre := []) (us := (Array.range (len * ty.el)).map (zs[· % zs.size]!)) (vs := parts.toList.map fun p => (p.1, a.eval p.2)) (by simp) (by simp) (by simp) (by simp) hparts hw
  have hus : us'.toList = rest := by simpa using hr1
  have hus2 : us' = rest.toArray := Array.ext' (by simp [hus])
  have hrun : (execOp a.eval o).run Γ.P w = .ok (.value (.slice (some ⟨w.heap.size, 0, none⟩) len len)) (w.alloc (.cells rest.toArray e)) := by
    have hbig' : ¬ (16777216 < len * ty.el) := by omega
    by_cases h0 : len * ty.el = 0
    · rw [if_pos h0] at hzs
      subst hzs
      have h0' : len = 0 ∨ ty.el = 0 := Nat.mul_eq_zero.1 h0
      simp only [h0] at hfill
      simp [execOp, hop, Instr.buildSlice, run_und hu, sizeOf, typeInfo, hi, hsz, h0, h0', newRow] 
      simp at hfill
      simp [hfill, hus2]
    · rw [if_neg h0] at hzs
      subst hzs
      have h0' : ¬ (len = 0 ∨ ty.el = 0) := fun h => h0 (Nat.mul_eq_zero.2 h)
      simp [execOp, hop, Instr.buildSlice, run_und hu, sizeOf, typeInfo, zeroValue, hi, hz, hsz, h0, h0', hbig', hfill, newRow, hus2]
  split at hF
  · have h1 := h.newData (some d) (fun x hx => hdst x (hd.trans hx)) ty.el es rest e hr3 hr4
    rw [hel, ← hd] at h1
    exact wp_value hrun (hK _ _ _ h1 (by rw [hd]; exact putF_eq hF))
  · have h1 := h.newRow d (hdst d hd) ty.el es rest len ⟨w.drawn, rfl⟩ e hr2 (by omega) hr3 hr4
    rw [hel, ← hd] at h1
    exact wp_value hrun (hK _ _ _ ⟨_, h1⟩ hF)

end
end Go.Vai

/- Each operation's effect on a pure state is its effect in memory: append. No condition. -/
namespace Go.Vai

section
variable {Γ : Ctx} {E : Env} {β : Nat → Option RA} {st : St} {a : Act} {w : World} {o : Oper} {k : St → Prop} {K : Act → World → Prop} {Q : Exit → Act → World → Prop}

/-- Elements out of cells in line. -/
def Lies (w : World) (ok : Nat → Nat → Prop) (sz : Nat) (es : List (List PV)) (us : List Value) : Prop :=
  us.length = es.length * sz ∧ (∀ (i : Nat) e, es[i]? = some e → e.length = sz) ∧ ∀ (i j : Nat) e p, es[i]? = some e → e[j]? = some p → ∃ u, us[i * sz + j]? = some u ∧ RepD w ok p u

theorem Lies.nil (ok : Nat → Nat → Prop) (sz : Nat) : Lies w ok sz [] [] := ⟨by simp, fun i e h => by simp at h, fun i j e p h => by simp at h⟩
theorem Lies.append {ok : Nat → Nat → Prop} {sz : Nat} {es ys : List (List PV)} {us vs : List Value} (h1 : Lies w ok sz es us) (h2 : Lies w ok sz ys vs) : Lies w ok sz (es ++ ys) (us ++ vs) := by
  refine ⟨by simp [h1.1, h2.1, Nat.add_mul], fun i e h => ?_, fun i j e p h hp => ?_⟩
  · rcases Nat.lt_or_ge i es.length with hi | hi
    · rw [List.getElem?_append_left hi] at h; exact h1.2.1 i e h
    · rw [List.getElem?_append_right hi] at h; exact h2.2.1 _ e h
  · rcases Nat.lt_or_ge i es.length with hi | hi
    · rw [List.getElem?_append_left hi] at h
      obtain ⟨u, hu, hd⟩ := h1.2.2 i j e p h hp
      exact ⟨u, by rw [List.getElem?_append_left (List.getElem?_eq_some_iff.1 hu).1]; exact hu, hd⟩
    · rw [List.getElem?_append_right hi] at h
      obtain ⟨u, hu, hd⟩ := h2.2.2 _ j e p h hp
      have hm : es.length * sz ≤ i * sz := Nat.mul_le_mul_right _ hi
      refine ⟨u, ?_, hd⟩
      rw [List.getElem?_append_right (by rw [h1.1]; omega), h1.1, show i * sz + j - es.length * sz = (i - es.length) * sz + j by rw [Nat.sub_mul]; omega]
      exact hu

theorem range_at {α : Type} (f : Nat → Nat → α) (n sz : Nat) (i j : Nat) (hi : i < n) (hj : j < sz) : ((List.range (n * sz)).map fun q => f (q / sz) (q % sz))[i * sz + j]? = some (f i j) := by
  have hlt : i * sz + j < n * sz := by
    have : (i + 1) * sz ≤ n * sz := Nat.mul_le_mul_right _ hi
    rw [Nat.add_mul, Nat.one_mul] at this
    omega
  have e1 : (i * sz + j) / sz = i := by
    rw [Nat.mul_comm, Nat.mul_add_div (by omega), Nat.div_eq_of_lt hj, Nat.add_zero]
  have e2 : (i * sz + j) % sz = j := by
    rw [Nat.mul_comm, Nat.mul_add_mod, Nat.mod_eq_of_lt hj]
  simp [hlt, e1, e2]

/-- Cells that lie in memory, read in line. -/
theorem src_cells {P : Program} {tx : TypeId} (hk : (∃ e', P.underlying tx = some (.slice e')) ∨ P.underlying tx = some .string) {ok : Nat → Nat → Prop} {sz : Nat} {es : List (List PV)} {A : Option Addr} {c : Nat} (us : Nat → Nat → Value)
    (hez : ∀ (i : Nat) e, es[i]? = some e → e.length = sz)
    (ha : es ≠ [] → ∃ b o, A = some ⟨b, o, none⟩ ∧ ∀ i j, i < es.length → j < sz → w.cell? ⟨b, o + (i * sz + j), none⟩ = some (us i j))
    (hr : ∀ (i j : Nat) e p, es[i]? = some e → e[j]? = some p → RepD w ok p (us i j)) :
    ∃ news, Src P sz tx (.slice A es.length c) es.length news w ∧ Lies w ok sz es news := by
  by_cases hes : es = []
  · subst hes
    refine ⟨[], ⟨hk, fun _ => rfl, ?_, ?_, by simp, fun u hu => by cases hu⟩, Lies.nil _ _⟩
    · cases A with
      | none => rfl
      | some A => exact run_firstCells_some w sz 0 A 0 c [] (by simp) (fun j u h => by simp at h)
    · cases A with
      | none => rfl
      | some A => exact run_firstCells_some w.drew sz 0 A 0 c [] (by simp) (fun j u h => by simp at h)
  · obtain ⟨b, o', rfl, hc⟩ := ha hes
    have hlies : Lies w ok sz es ((List.range (es.length * sz)).map fun q => us (q / sz) (q % sz)) := by
      refine ⟨by simp, hez, fun i j e p he hp => ⟨us i j, ?_, hr i j e p he hp⟩⟩
      refine range_at us es.length sz i j (List.getElem?_eq_some_iff.1 he).1 ?_
      rw [← hez i e he]
      exact (List.getElem?_eq_some_iff.1 hp).1
    have hq : ∀ q, q < es.length * sz → q / sz < es.length ∧ q % sz < sz ∧ q / sz * sz + q % sz = q := fun q hq => by
      have hpos : 0 < sz := Nat.pos_of_ne_zero (fun e => by subst e; simp at hq)
      refine ⟨Nat.div_lt_of_lt_mul (by rwa [Nat.mul_comm] at hq), Nat.mod_lt _ hpos, ?_⟩
      rw [Nat.mul_comm]; exact Nat.div_add_mod q sz
    have hnews : ∀ (j : Nat) u, ((List.range (es.length * sz)).map fun q => us (q / sz) (q % sz))[j]? = some u → w.cell? ((⟨b, o', none⟩ : Addr).add j) = some u := by
      intro j u hu
      have hj : j < es.length * sz := by have := (List.getElem?_eq_some_iff.1 hu).1; simpa using this
      simp [hj] at hu
      subst hu
      obtain ⟨h1, h2, h3⟩ := hq j hj
      have := hc _ _ h1 h2
      rw [h3] at this
      rw [add_none]; exact this
    refine ⟨_, ⟨hk, fun _ => rfl, run_firstCells_some w sz es.length _ es.length c _ (by simp) hnews, run_firstCells_some w.drew sz es.length _ es.length c _ (by simp) (by simpa using hnews), by simp, fun u hu => ?_⟩, hlies⟩
    obtain ⟨q, hq1, rfl⟩ := List.mem_map.1 hu
    obtain ⟨h1, h2, h3⟩ := hq q (by simpa using hq1)
    have he : es[q / sz]? = some es[q / sz] := by simp [h1]
    have hl : q % sz < es[q / sz].length := by rw [hez _ _ he]; exact h2
    exact RepD.one (hr _ _ _ es[q / sz][q % sz] he (by simp [hl]))

theorem src_ok (h : RepS Γ E β st a w) {tx : TypeId} (hk : (∃ e', Γ.P.underlying tx = some (.slice e')) ∨ Γ.P.underlying tx = some .string) {y : PV} {v : Value} (hv : RepV w (E.cx β w) y v) {ys : List (List PV)} (hs : srcEs st y = some ys) {sz : Nat}
    (hez : ∀ (i : Nat) e, ys[i]? = some e → e.length = sz) : ∃ news, Src Γ.P sz tx v ys.length news w ∧ Lies w (E.cx β w).ok sz ys news := by
  cases y with
  | s x =>
    have hx := (repV_s_eq hv).1
    subst hx
    cases v with
    | string b =>
      simp only [srcEs, Option.some.injEq] at hs
      subst hs
      have hlen : (bytesP b).length = b.size := by simp [bytesP]
      have hb : ∀ (i : Nat) e, (bytesP b)[i]? = some e → ∃ c : UInt8, e = [.s (.int .u8 c.toNat)] ∧ (byteCells b)[i]? = some (.int .u8 c.toNat) := by
        intro i e he
        simp [bytesP] at he
        obtain ⟨c, hc, rfl⟩ := he
        exact ⟨c, rfl, by simp [byteCells, hc]⟩
      have hfc : ∀ w' : World, (Builtin.firstCells sz b.size (.string b)).run Γ.P w' = .ok (byteCells b).toArray w' := fun w' => firstCells_string b w'
      have hnl : (byteCells b).length = b.size * sz := by
        rw [byteCells_length]
        by_cases h0 : b.size = 0
        · simp [h0]
        · have hi : (bytesP b)[0]? = some ((bytesP b)[0]'(by omega)) := List.getElem?_eq_getElem _
          obtain ⟨c, hc, _⟩ := hb 0 _ hi
          have := hez 0 _ hi
          rw [hc] at this
          simp at this
          rw [← this, Nat.mul_one]
      rw [hlen]
      refine ⟨byteCells b, ⟨hk, fun _ => rfl, hfc w, hfc w.drew, hnl, fun u hu => ?_⟩, by rw [hnl, hlen], hez, fun i j e p he hp => ?_⟩
      · obtain ⟨_, _, rfl⟩ := List.mem_map.1 hu
        rfl
      · obtain ⟨c, hc, hcell⟩ := hb i e he
        have hsz := hez i e he
        subst hc
        simp at hsz
        have hj : j = 0 := by have := (List.getElem?_eq_some_iff.1 hp).1; simpa using this
        subst hj
        simp at hp
        subst hp
        exact ⟨_, by rw [← hsz]; simpa using hcell, RepD.s _ rfl⟩
    | _ => simp [srcEs] at hs
  | slc sz' es full =>
    simp only [srcEs, Option.some.injEq] at hs
    subst hs
    obtain ⟨A, c, us, rfl, hc, _, hez', ha, hr⟩ := repV_slc hv
    refine src_cells hk us hez (fun hn => ?_) hr
    obtain ⟨b, o', hA, hx⟩ := ha hn
    have : sz' = sz := by
      cases es with
      | nil => exact absurd rfl hn
      | cons e r => rw [← hez 0 e rfl, ← hez' 0 e rfl]
    subst this
    exact ⟨b, o', hA, fun i j hi hj => (hx i j hi hj).2⟩
  | xs j q =>
    cases q with
    | none =>
      simp only [srcEs] at hs
      split at hs
      case h_2 => cases hs
      rename_i sz' es hH
      cases hs
      obtain ⟨ra, hra, hrow⟩ := h.hp j _ hH
      obtain ⟨rb, hrb, hvx⟩ := hv
      change β j = some rb at hrb
      rw [hra] at hrb
      cases hrb
      rcases hrow with ⟨e1, e2⟩ | ⟨b, cap, us, t', e1, e2, e3, e4, e5, e6⟩
      · subst e1; subst e2
        obtain ⟨A, rfl⟩ := hvx
        exact src_cells (es := []) hk (fun _ _ => undef) (fun i e he => by simp at he) (fun hn => absurd rfl hn) (fun i j e p he => by simp at he)
      · subst e1
        have hvx : v = .slice (some ⟨b, 0, none⟩) ys.length cap := hvx
        subst hvx
        refine src_cells hk (fun i j => us.getD (i * sz' + j) undef) hez (fun hn => ⟨b, 0, rfl, fun i j hi hj => ?_⟩) (fun i j e p he hp => ?_)
        · have he : ys[i]? = some ys[i] := by simp [hi]
          have h1 : sz' = sz := by rw [← hez i _ he, ← e5 i _ he]
          subst h1
          have hl : j < ys[i].length := by rw [hez _ _ he]; exact hj
          obtain ⟨u, hu, _⟩ := e6 i j _ ys[i][j] he (by simp [hl])
          simp [World.cell?, e2, hu]
        · obtain ⟨u, hu, hd⟩ := e6 i j e p he hp
          have : us.getD (i * sz' + j) undef = u := by simp [hu]
          rw [this]; exact hd
    | some q =>
      obtain ⟨lo, n⟩ := q
      simp only [srcEs] at hs
      split at hs
      case h_2 => cases hs
      rename_i sz' es hH
      cases hs
      obtain ⟨ra, hra, hrow⟩ := h.hp j _ hH
      obtain ⟨rb, hrb, hvx⟩ := hv
      change β j = some rb at hrb
      rw [hra] at hrb
      cases hrb
      rcases hrow with ⟨e1, e2⟩ | ⟨b, cap, us, t', e1, e2, e3, e4, e5, e6⟩
      · subst e1; subst e2
        obtain ⟨rfl, rfl, A, rfl⟩ := hvx
        exact src_cells (es := []) hk (fun _ _ => undef) (fun i e he => by simp at he) (fun hn => absurd rfl hn) (fun i j e p he => by simp at he)
      · subst e1
        have hvx : lo + n ≤ es.length ∧ ∃ A, v = .slice A n (cap - lo) ∧ (n = 0 ∨ A = some ⟨b, lo * sz', none⟩) := hvx
        obtain ⟨hln, A, rfl, hA⟩ := hvx
        have hlen : ((es.drop lo).take n).length = n := by simp; omega
        have hget : ∀ (i : Nat) e, ((es.drop lo).take n)[i]? = some e → es[lo + i]? = some e := fun i e he => by
          rw [List.getElem?_take] at he
          split at he
          · rw [List.getElem?_drop] at he; exact he
          · cases he
        have := src_cells (w := w) (ok := (E.cx β w).ok) (A := A) (c := cap - lo) (es := (es.drop lo).take n) hk (fun i j => us.getD ((lo + i) * sz' + j) undef) hez (fun hn => ⟨b, lo * sz', ?_, fun i j hi hj => ?_⟩) (fun i j e p he hp => ?_)
        · rw [hlen] at this ⊢; exact this
        · rcases hA with hA | hA
          · subst hA; simp at hn
          · exact hA
        · have he : ((es.drop lo).take n)[i]? = some ((es.drop lo).take n)[i] := by rw [List.getElem?_eq_getElem hi]
          have he2 := hget i _ he
          have h1 : sz' = sz := by rw [← hez i _ he, ← e5 _ _ he2]
          subst h1
          have hl : j < ((es.drop lo).take n)[i].length := by rw [hez _ _ he]; exact hj
          obtain ⟨u, hu, _⟩ := e6 _ j _ (((es.drop lo).take n)[i][j]) he2 (by rw [List.getElem?_eq_getElem hl])
          have e7 : lo * sz' + (i * sz' + j) = (lo + i) * sz' + j := by rw [Nat.add_mul]; omega
          rw [e7]
          simp [World.cell?, e2, hu]
        · obtain ⟨u, hu, hd⟩ := e6 _ j e p (hget i e he) hp
          have : us.getD ((lo + i) * sz' + j) undef = u := by simp [hu]
          rw [this]; exact hd
  | _ => simp [srcEs] at hs

end
end Go.Vai

/- Each operation's effect on a pure state is its effect in memory: append, joined. No condition. -/
namespace Go.Vai

section
variable {Γ : Ctx} {E : Env} {β : Nat → Option RA} {st : St} {a : Act} {w : World} {o : Oper} {k : St → Prop} {K : Act → World → Prop} {Q : Exit → Act → World → Prop}

theorem appE_eq (es ys : List (List PV)) : appE es ys = es ++ ys := by cases es <;> rfl

theorem Lies.mono {w' : World} {ok ok' : Nat → Nat → Prop} {sz : Nat} {es : List (List PV)} {us : List Value} (h : ∀ b o v, ok b o → w.cell? ⟨b, o, none⟩ = some v → ok' b o ∧ w'.cell? ⟨b, o, none⟩ = some v) (h1 : Lies w ok sz es us) : Lies w' ok' sz es us :=
  ⟨h1.1, h1.2.1, fun i j e p he hp => by
    obtain ⟨u, hu, hd⟩ := h1.2.2 i j e p he hp
    exact ⟨u, hu, RepD.mono h hd⟩⟩
theorem Lies.get {ok : Nat → Nat → Prop} {sz : Nat} {es : List (List PV)} {us : List Value} (h1 : Lies w ok sz es us) (pre post : List Value) : ∀ (i j : Nat) e p, es[i]? = some e → e[j]? = some p → ∃ u, (us ++ post)[i * sz + j]? = some u ∧ RepD w ok p u := by
  intro i j e p he hp
  obtain ⟨u, hu, hd⟩ := h1.2.2 i j e p he hp
  exact ⟨u, by rw [List.getElem?_append_left (List.getElem?_eq_some_iff.1 hu).1]; exact hu, hd⟩

/-- Row k lies in a new block. -/
theorem RepS.rowGrow (h : RepS Γ E β st a w) (k : Nat) (hfx : E.fx k = none) (sz : Nat) (es : List (List PV)) (us : List Value) (cap : Nat) {w1 : World} (hw1 : ∃ n, w1 = { w with drawn := n }) (t : Nat) (hsz : us.length = cap * sz) (hcap : es.length ≤ cap) (hez : ∀ (i : Nat) e, es[i]? = some e → e.length = sz)
    (hr : ∀ (i j : Nat) e p, es[i]? = some e → e[j]? = some p → ∃ u, us[i * sz + j]? = some u ∧ RepD w (E.cx β w).ok p u) (d : Option Nat) (hdst : ∀ x, d = some x → x < Γ.N) :
    RepS Γ E (upd β k (some (.blk w.heap.size cap sz es.length))) ((⟨(st.kill k).fr, upd (st.kill k).H k (some (.row sz es))⟩ : St).put d (.xs k none)) (a.put d (.slice (some ⟨w.heap.size, 0, none⟩) es.length cap)) (w1.alloc (.cells us.toArray t)) := by
  obtain ⟨n, rfl⟩ := hw1
  have h0 := h.drew n
  have h1 := h0.setRow k (.row sz es) (.blk w.heap.size cap sz es.length) (w' := ({ w with drawn := n } : World).alloc (.cells us.toArray t)) rfl rfl rfl (by simp) (fun b hb _ => heap_alloc_old ({ w with drawn := n } : World) _ hb)
    (fun b c s l e => by injection e with e1; subst e1; simp) hfx
    (fun hm => .inr ⟨w.heap.size, cap, us.toArray, t, rfl, heap_alloc_new ({ w with drawn := n } : World) _, by simpa using hsz, hcap, hez, fun i j e p he hp => by
      obtain ⟨u, hu, hd⟩ := hr i j e p he hp
      refine ⟨u, by simpa using hu, RepD.mono hm.cell ?_⟩
      exact RepD.mono (w := w) (ok := (E.cx β w).ok) (w' := { w with drawn := n }) (ok' := (E.cx β { w with drawn := n }).ok) (fun b o v h1 h2 => ⟨h1, h2⟩) hd⟩)
  exact h1.put (d := d) (p := .xs k none) (v := .slice (some ⟨w.heap.size, 0, none⟩) es.length cap) ⟨_, by show upd β k _ k = _; rw [upd_at, if_pos rfl], rfl⟩ hdst

/-- Room: the cells behind the length are written. -/
theorem app_room {P : Program} (t tx ty e : TypeId) (i : TypeInfo) (ht : P.underlying t = some (.slice e)) (hi : P.info? e = some i) (b sLen sCap : Nat) (x : Value) (n : Nat) (news : List Value) (hs : Src P i.size tx x n news w)
    (hroom : sLen + n ≤ sCap) {us : Array Value} {t' : TypeId} (hb : w.heap[b]? = some (.cells us t' (0, 0))) (hu : us.size = sCap * i.size) :
    (Builtin.append_ #[t, tx] ty #[.slice (some ⟨b, 0, none⟩) sLen sCap, x]).run P w = .ok (.slice (some ⟨b, 0, none⟩) (sLen + n) sCap)
      (w.setRow b (us.toList.take (sLen * i.size) ++ news ++ us.toList.drop (sLen * i.size + news.length)).toArray) := by
  have hle : sLen * i.size + news.length ≤ us.size := by
    rw [hs.newsLen, hu, ← Nat.add_mul]
    exact Nat.mul_le_mul_right _ hroom
  have hst := run_storeCells_at P b (sLen * i.size) t' news 0 us w hb (by simpa using hle) hs.one
  simp only [Nat.add_zero] at hst
  rcases hs.kind with ⟨e', hk⟩ | hk <;> simp [Builtin.append_, run_und ht, run_und hk, sizeOf, typeInfo, hi, hs.len, hroom, hs.cells, Addr.add_lit, hst]

theorem isSli_ok {T : Nat → Option Ty} {t : Nat} {ty : Ty} (h : isSli T t = some ty) : T t = some ty ∧ ty.kind = .slice := by
  unfold isSli at h
  split at h
  · rename_i ty' h1
    split at h
    · rename_i h2; cases h; exact ⟨h1, h2⟩
    · cases h
  · cases h
theorem isSeq_ok (hΓ : Γ.Ok) {t : Nat} (h : isSeq Γ.T t = true) : (∃ e', Γ.P.underlying t = some (.slice e')) ∨ Γ.P.underlying t = some .string := by
  unfold isSeq at h
  split at h
  · rename_i ty h1
    have hk := (hΓ.ty t ty h1).kind
    unfold KindOk at hk
    split at h
    · rename_i h2
      rw [h2] at hk
      obtain ⟨e, _, hu, _⟩ := hk
      exact .inl ⟨e, hu⟩
    · rename_i h2
      rw [h2] at hk
      exact .inr hk
    · cases h
  · cases h

theorem op_append (hΓ : Γ.Ok) {c : Call} (hop : o.op = .call c) (hc : c.callee = .builtin .append) (h : RepS Γ E β st a w) (hx : c.args.toList.all (okOpd Γ.N) = true) (hsz2 : c.argTypes.size = 2) (hw : opW Γ o st k) (hK : Nxt Γ E k K) (hdst : ∀ x, o.dst = some x → x < Γ.N) : o.wp Γ.P a w K Q := by
  unfold opW at hw
  rw [hop] at hw
  dsimp only at hw
  rw [hc] at hw
  dsimp only at hw
  have he := evs_ok h Γ.T c.args.toList c.argTypes.toList hx
  split at hw
  case h_2 => exact hw.elim
  rename_i t t2 tr x y ht hp
  rw [hp] at he
  obtain ⟨hl, hv⟩ := he
  have htr : tr = [] := by
    have : c.argTypes.toList.length = 2 := by simpa using hsz2
    rw [ht] at this
    simpa using this
  subst htr
  obtain ⟨X, Y, hargs⟩ : ∃ X Y, c.args.toList = [X, Y] := by
    match hargs : c.args.toList, hl with
    | [X, Y], _ => exact ⟨X, Y, rfl⟩
  clear hl
  · rw [hargs] at hv
    have hxv := hv 0 x X rfl rfl
    have hyv := hv 1 y Y rfl rfl
    have hargs' : c.args = #[X, Y] := by rw [← Array.toArray_toList (xs := c.args), hargs]
    have ht' : c.argTypes = #[t, t2] := by rw [← Array.toArray_toList (xs := c.argTypes), ht]
    have ex : ∀ {v : Value} {w' : World}, (Builtin.append_ #[t, t2] o.type #[a.eval X, a.eval Y]).run Γ.P w = .ok v w' → (execOp a.eval o).run Γ.P w = .ok (.value v) w' := by
      intro v w' h1
      simp [execOp, hop, resolve, hc, hargs', ht', invoke, Go.builtin, h1]
    unfold appW at hw
    split at hw
    case h_2 => exact hw.elim
    rename_i ty ys d hty hseq hsrc hd
    obtain ⟨hT, hk⟩ := isSli_ok hty
    obtain ⟨e, i, z, hu, hi, hz, hsz, hby, hzl, hz1, hpos, hbb⟩ := slice_zero (w := w) hk (hΓ.ty t ty hT).kind
    have hky := isSeq_ok hΓ hseq
    -- growth
    have grow : ∀ (es : List (List PV)) (A : Option Addr) (cap : Nat) (olds news : List Value), a.eval X = .slice A es.length cap → Src Γ.P ty.el t (a.eval X) es.length olds w → Src Γ.P ty.el t2 (a.eval Y) ys.length news w →
        cap < es.length + ys.length → es.length + ys.length ≤ 1073741824 →
        ∃ cap' us, (execOp a.eval o).run Γ.P w = .ok (.value (.slice (some ⟨w.heap.size, 0, none⟩) (es.length + ys.length) cap')) (w.drew.alloc (.cells ((olds ++ news) ++ us).toArray e)) ∧ es.length + ys.length ≤ cap' ∧ ((olds ++ news) ++ us).length = cap' * ty.el := by
      intro es A cap olds news hX ho hn hg hle
      have hcap := grownCap_ge w (es.length + ys.length) cap e
      refine ⟨grownCap w (es.length + ys.length) cap e, (Builtin.zeroCells z.cells (grownCap w (es.length + ys.length) cap e - (es.length + ys.length))).toList, ?_, hcap, ?_⟩
      · have hold := ho.cellsD
        rw [hX] at hold
        have hfit : Builtin.nextslicecap (es.length + ys.length) cap * i.bytes ≤ 281474976710656 := by
          refine growslice_fits hg ?_
          rw [hby]
          have := Nat.mul_le_mul hle hbb
          omega
        have := run_append_grow_src w t t2 o.type e i z hu hi hz A es.length cap olds (by rw [hsz]; exact hold) (a.eval Y) ys.length news (by rw [hsz]; exact hn) hg (by omega) hfit
        rw [← hX] at this
        rw [ex this]
        congr 2
        congr 1
        apply Array.ext'
        simp
      · have h1 := ho.newsLen
        have h2 := hn.newsLen
        have h3 : z.cells.size = ty.el := by simpa using hzl
        simp [size_zeroCells, h1, h2, h3]
        rw [← Nat.add_mul, ← Nat.add_mul]
        congr 1
        omega
    split at hw
    · -- a row
      rename_i j
      split at hw
      case h_2 => exact hw.elim
      rename_i sz es hH
      split at hw
      case h_2 => exact hw.elim
      rename_i hb
      rw [Bool.and_eq_true] at hb
      obtain ⟨hmv, hb⟩ := hb
      have hb := Nat.eq_of_beq_eq_true hb
      subst hb
      obtain ⟨⟨hyz, hle⟩, hw⟩ := hw
      simp only [appE_eq] at hw
      have hfx : E.fx j = none := fx_may h hmv
      obtain ⟨ra, hra, hrow⟩ := h.hp j _ hH
      obtain ⟨rb, hrb, hvx⟩ := hxv
      change β j = some rb at hrb
      rw [hra] at hrb
      cases hrb
      obtain ⟨news, hnews, hnl⟩ := src_ok h hky hyv hsrc hyz
      have hez : ∀ (i : Nat) e, es[i]? = some e → e.length = ty.el := by
        rcases hrow with ⟨_, e2⟩ | ⟨b, cap, us, t', _, _, _, _, e5, _⟩
        · subst e2; intro i e he; simp at he
        · exact e5
      have hxv' : RepV w (E.cx β w) (.xs j none) (a.eval X) := ⟨ra, hra, hvx⟩
      obtain ⟨olds, holds, hol⟩ := src_ok h (tx := t) (.inl ⟨e, hu⟩) hxv' (by simp [srcEs, hH]) hez
      have hall := hol.append hnl
      have fin : ∀ (A : Option Addr) (cap : Nat), a.eval X = .slice A es.length cap → cap < es.length + ys.length → o.wp Γ.P a w K Q := by
        intro A cap hX hg
        obtain ⟨cap', us, hrun, hc1, hc2⟩ := grow es A cap olds news hX holds hnews hg hle
        have h1 := h.rowGrow j hfx ty.el (es ++ ys) ((olds ++ news) ++ us) cap' ⟨_, rfl⟩ e hc2 (by simpa using hc1) hall.2.1 (hall.get [] us) o.dst hdst (w1 := w.drew)
        refine wp_value hrun (hK _ _ _ ⟨_, by simpa using h1⟩ ?_)
        rw [hd]
        exact hw
      rcases hrow with ⟨e1, e2⟩ | ⟨b, cap, us, t', e1, e2, e3, e4, e5, e6⟩
      · subst e1; subst e2
        obtain ⟨A, hvx⟩ := hvx
        by_cases hy0 : ys = []
        · subst hy0
          have hn0 : news = [] := List.length_eq_zero_iff.1 (by rw [hnews.newsLen]; simp)
          subst hn0
          have hrun := run_append_nothing w t t2 o.type e i hu hi A 0 0 (Nat.le_refl _) (a.eval Y) (by rw [hsz]; exact hnews)
          rw [← hvx] at hrun
          have h3 := h.setRow j (.row ty.el ([] ++ [])) .nil_ (w' := w) rfl rfl rfl (Nat.le_refl _) (fun b hb _ => rfl) (fun b c s l e => by cases e) hfx (fun _ => .inl ⟨rfl, rfl⟩)
          have h4 := h3.put (d := some d) (p := .xs j none) (v := a.eval X) ⟨.nil_, by show upd β j _ j = _; rw [upd_at, if_pos rfl], A, hvx⟩ (fun x hx => hdst x (hd.trans hx))
          refine wp_value (ex hrun) (hK _ _ _ ⟨_, by rw [hd]; exact h4⟩ hw)
        · refine fin A 0 hvx ?_
          have : 0 < ys.length := List.length_pos_iff.2 hy0
          simp; omega
      · subst e1
        have hvx : a.eval X = .slice (some ⟨b, 0, none⟩) es.length cap := hvx
        by_cases hroom : es.length + ys.length ≤ cap
        · have hrun := app_room t t2 o.type e i hu hi b es.length cap (a.eval Y) ys.length news (by rw [hsz]; exact hnews) hroom e2 (by rw [hsz]; exact e3)
          rw [← hvx, hsz] at hrun
          have hle2 : es.length * ty.el + news.length ≤ us.size := by
            rw [hnews.newsLen, e3, ← Nat.add_mul]
            exact Nat.mul_le_mul_right _ hroom
          have h3 := h.setRow j (.row ty.el (es ++ ys)) (.blk b cap ty.el (es ++ ys).length) (w' := w.setRow b (us.toList.take (es.length * ty.el) ++ news ++ us.toList.drop (es.length * ty.el + news.length)).toArray) rfl rfl rfl (by simp)
            (fun b' hb' hnb => setRow_other w b b' _ (fun e => hnb cap ty.el es.length (by rw [hra, e])))
            (fun b2 c2 s2 l2 e => by cases e; exact ⟨by simpa using (h.own j b cap ty.el es.length hra).2, .inr ⟨_, _, _, hra⟩⟩) hfx
            (fun hm => .inr ⟨b, cap, _, t', rfl, setRow_heap w b us _ t' _ e2, ?_, by simpa using hroom, hall.2.1, fun q r e p he hp => ?_⟩)
          · have h4 := h3.put (d := some d) (p := .xs j none) (v := .slice (some ⟨b, 0, none⟩) (es.length + ys.length) cap) ⟨_, by show upd β j _ j = _; rw [upd_at, if_pos rfl], by simp⟩ (fun x hx => hdst x (hd.trans hx))
            exact wp_value (ex hrun) (hK _ _ _ ⟨_, by rw [hd]; exact h4⟩ hw)
          · simp; omega
          · have hpre : (us.toList.take (es.length * ty.el)).length = es.length * ty.el := by simp; omega
            rcases Nat.lt_or_ge q es.length with hq | hq
            · rw [List.getElem?_append_left hq] at he
              obtain ⟨u, hu, hdd⟩ := e6 q r e p he hp
              have hr : r < ty.el := by rw [← e5 q e he]; exact (List.getElem?_eq_some_iff.1 hp).1
              have hlt : q * ty.el + r < es.length * ty.el := by
                have : (q + 1) * ty.el ≤ es.length * ty.el := Nat.mul_le_mul_right _ hq
                rw [Nat.add_mul, Nat.one_mul] at this
                omega
              refine ⟨u, ?_, RepD.mono hm.cell hdd⟩
              simp only [List.getElem?_toArray, List.append_assoc]
              rw [List.getElem?_append_left (by omega), List.getElem?_take, if_pos hlt]
              simpa using hu
            · rw [List.getElem?_append_right hq] at he
              obtain ⟨u, hu, hdd⟩ := hnl.2.2 _ r e p he hp
              have hm2 : es.length * ty.el ≤ q * ty.el := Nat.mul_le_mul_right _ hq
              refine ⟨u, ?_, RepD.mono hm.cell hdd⟩
              simp only [List.getElem?_toArray, List.append_assoc]
              rw [List.getElem?_append_right (by omega), hpre, show q * ty.el + r - es.length * ty.el = (q - es.length) * ty.el + r by rw [Nat.sub_mul]; omega, List.getElem?_append_left (List.getElem?_eq_some_iff.1 hu).1]
              exact hu
        · exact fin _ cap hvx (by omega)
    · rename_i sz es
      split at hw
      case h_2 => exact hw.elim
      rename_i hb
      have hb := Nat.eq_of_beq_eq_true hb
      subst hb
      obtain ⟨⟨hyz, hor, hle⟩, hw⟩ := hw
      simp only [appE_eq] at hw
      obtain ⟨news, hnews, hnl⟩ := src_ok h hky hyv hsrc hyz
      obtain ⟨A, cap, us0, hX, hcap, hfull, hez, _, _⟩ := repV_slc hxv
      have hfull := hfull rfl
      obtain ⟨olds, holds, hol⟩ := src_ok h (tx := t) (.inl ⟨e, hu⟩) hxv (ys := es) rfl hez
      have hall := hol.append hnl
      by_cases hy0 : ys = []
      · have hes : es = [] := by
          rcases hor with h1 | h1
          · exact h1
          · exact absurd hy0 h1
        subst hy0; subst hes
        simp only [List.length_nil] at hX hfull
        subst hfull
        have hn0 : news = [] := List.length_eq_zero_iff.1 (by rw [hnews.newsLen]; simp)
        subst hn0
        have hrun := run_append_nothing w t t2 o.type e i hu hi A 0 0 (Nat.le_refl _) (a.eval Y) (by rw [hsz]; exact hnews)
        rw [← hX] at hrun
        have h3 := h.setRow (lid d) (.row ty.el ([] ++ [])) .nil_ (w' := w) rfl rfl rfl (Nat.le_refl _) (fun b hb _ => rfl) (fun b c s l e => by cases e) (fx_local h (by simp [lid])) (fun _ => .inl ⟨rfl, rfl⟩)
        have h4 := h3.put (d := some d) (p := .xs (lid d) none) (v := a.eval X) ⟨.nil_, by show upd β (lid d) _ (lid d) = _; rw [upd_at, if_pos rfl], A, hX⟩ (fun x hx => hdst x (hd.trans hx))
        exact wp_value (ex hrun) (hK _ _ _ ⟨_, by rw [hd]; exact h4⟩ hw)
      · have : 0 < ys.length := List.length_pos_iff.2 hy0
        obtain ⟨cap', us, hrun, hc1, hc2⟩ := grow es A cap olds news hX holds hnews (by omega) hle
        have h1 := h.newRow d (hdst d hd) ty.el (es ++ ys) ((olds ++ news) ++ us) cap' ⟨_, rfl⟩ e hc2 (by simpa using hc1) hall.2.1 (hall.get [] us) (w1 := w.drew)
        exact wp_value hrun (hK _ _ _ ⟨_, by rw [hd]; simpa using h1⟩ hw)
    · exact hw.elim

theorem zeroCells_at (z : Array Value) (n i j sz : Nat) (hz : z.size = sz) (hi : i < n) (hj : j < sz) : (Builtin.zeroCells z n).toList[i * sz + j]? = z.toList[j]? := by
  subst hz
  have h1 : i * z.size + j < n * z.size := by
    have : (i + 1) * z.size ≤ n * z.size := Nat.mul_le_mul_right _ hi
    rw [Nat.add_mul, Nat.one_mul] at this
    omega
  have h2 : (i * z.size + j) % z.size = j := by
    rw [Nat.mul_comm, Nat.mul_add_mod, Nat.mod_eq_of_lt hj]
  simp [Builtin.zeroCells, h1, h2, hj]
theorem zok_D {ok : Nat → Nat → Prop} {p : PV} (h : zok p = true) : RepD w ok p (zval p) := by
  cases p with
  | s v => exact RepD.s v h
  | slc sz es full =>
    cases es with
    | cons _ _ => cases full <;> cases h
    | nil => cases full with
      | false => cases h
      | true => exact RepD.slc sz [] true none 0 (fun _ _ => undef) (Nat.le_refl _) (fun _ => rfl) (fun i e he => by simp at he) (fun hn => absurd rfl hn) (fun i j e p he => by simp at he)
  | _ => cases h

theorem op_clear (hΓ : Γ.Ok) {c : Call} (hop : o.op = .call c) (hc : c.callee = .builtin .clear) (h : RepS Γ E β st a w) (hx : c.args.toList.all (okOpd Γ.N) = true) (hw : opW Γ o st k) (hK : Nxt Γ E k K) : o.wp Γ.P a w K Q := by
  unfold opW at hw
  rw [hop] at hw
  dsimp only at hw
  rw [hc] at hw
  dsimp only at hw
  have he := evs_ok h Γ.T c.args.toList c.argTypes.toList hx
  split at hw
  case h_2 => exact hw.elim
  rename_i t j lo n ht hp hd
  rw [hp] at he
  obtain ⟨hl, hv⟩ := he
  split at hw
  case h_2 => exact hw.elim
  rename_i sz es hH
  obtain ⟨e, tye, hu, hT, hw⟩ := hw
  split at hw
  case h_2 => exact hw.elim
  rename_i hb
  have hb := Nat.eq_of_beq_eq_true hb
  have hty := hΓ.ty e tye hT
  obtain ⟨z, hz1, hz2⟩ := hty.run_zero (w := w)
  have hzs : z.cells.size = sz := by
    have h1 := congrArg List.length hz2
    have h2 := Nat.eq_of_beq_eq_true hty.zlen
    simp at h1
    omega
  obtain ⟨X, hargs⟩ : ∃ X, c.args.toList = [X] := by
    match hargs : c.args.toList, hl with
    | [X], _ => exact ⟨X, rfl⟩
  rw [hargs] at hv
  have hxv := hv 0 _ X rfl rfl
  have hargs' : c.args = #[X] := by rw [← Array.toArray_toList (xs := c.args), hargs]
  have ht' : c.argTypes = #[t] := by rw [← Array.toArray_toList (xs := c.argTypes), ht]
  have ex : ∀ {v : Value} {w' : World}, (Builtin.clear_ #[t] o.type #[a.eval X]).run Γ.P w = .ok v w' → (execOp a.eval o).run Γ.P w = .ok (.value v) w' := by
    intro v w' h1
    simp [execOp, hop, resolve, hc, hargs', ht', invoke, Go.builtin, h1]
  have hput : a.put o.dst (.tuple #[]) = a := by rw [hd]; rfl
  obtain ⟨ra, hra, hrow⟩ := h.hp j _ hH
  obtain ⟨rb, hrb, hvx⟩ := hxv
  change β j = some rb at hrb
  rw [hra] at hrb
  cases hrb
  have nothing : n = 0 → (∃ A cap, a.eval X = .slice A 0 cap) → o.wp Γ.P a w K Q := by
    rintro rfl ⟨A, cap, hX⟩
    have hrun : (Builtin.clear_ #[t] o.type #[a.eval X]).run Γ.P w = .ok (.tuple #[]) w := by
      rw [hX]
      cases A <;> cases cap <;> simp [Builtin.clear_, run_und hu]
    refine wp_value (ex hrun) ?_
    rw [hput]
    refine hK st _ _ ⟨β, h⟩ ?_
    have e1 : es.take lo ++ (List.replicate 0 tye.zero ++ es.drop (lo + 0)) = es := by simp
    rw [e1] at hw
    have e2 : st.setH j (.row sz es) = st := by
      unfold St.setH
      rw [upd_self hH]
    rwa [e2] at hw
  rcases hrow with ⟨e1, e2⟩ | ⟨b, cap, us, t', e1, e2, e3, e4, e5, e6⟩
  · subst e1
    obtain ⟨_, hn, A, hX⟩ := hvx
    exact nothing hn ⟨A, 0, hX⟩
  · subst e1
    obtain ⟨hlo, A, hX, hA⟩ := hvx
    by_cases hn : n = 0
    · exact nothing hn ⟨A, cap - lo, by rw [hX, hn]⟩
    · have hA : A = some ⟨b, lo * sz, none⟩ := by
        rcases hA with h1 | h1
        · exact absurd h1 hn
        · exact h1
      subst hA
      have hzl : (Builtin.zeroCells z.cells n).toList.length = n * sz := by
        have := size_zeroCells z.cells n
        rw [hzs] at this
        simpa using this
      have hfit : lo * sz + n * sz ≤ us.size := by
        rw [e3, ← Nat.add_mul]
        exact Nat.mul_le_mul_right _ (by omega)
      have hone : ∀ v ∈ (Builtin.zeroCells z.cells n).toList, v.oneCell' = true := by
        intro v hv
        obtain ⟨q, hq, rfl⟩ := List.mem_iff_getElem.1 hv
        rw [hzl] at hq
        have hsz0 : 0 < sz := by
          rcases Nat.eq_zero_or_pos sz with h1 | h1
          · rw [h1] at hq; omega
          · exact h1
        have h1 := zeroCells_at z.cells n (q / sz) (q % sz) sz hzs (Nat.div_lt_of_lt_mul (by rw [Nat.mul_comm]; exact hq)) (Nat.mod_lt _ hsz0)
        rw [Nat.mul_comm, Nat.div_add_mod, List.getElem?_eq_getElem (by rw [hzl]; exact hq)] at h1
        have h2 := List.mem_of_getElem? h1.symm
        rw [hz2] at h2
        obtain ⟨p, hp, h3⟩ := List.mem_map.1 h2
        rw [← h3]
        exact (zok_D (w := w) (ok := fun _ _ => True) (List.all_eq_true.1 hty.zok p hp)).one
      have hst := run_storeCells_at Γ.P b (lo * sz) t' (Builtin.zeroCells z.cells n).toList 0 us w e2 (by simpa [hzl] using hfit) hone
      simp only [Nat.add_zero, hzl] at hst
      have hrun : (Builtin.clear_ #[t] o.type #[a.eval X]).run Γ.P w = .ok (.tuple #[]) (w.setRow b (us.toList.take (lo * sz) ++ (Builtin.zeroCells z.cells n).toList ++ us.toList.drop (lo * sz + n * sz)).toArray) := by
        rw [hX]
        cases n with
        | zero => exact absurd rfl hn
        | succ n => simp [Builtin.clear_, run_und hu, hz1, hst]
      refine wp_value (ex hrun) ?_
      rw [hput]
      refine hK _ _ _ ⟨β, ?_⟩ hw
      refine h.write j _ _ hra rfl rfl rfl (by simp) (fun b' hb' => setRow_other w b b' _ (fun e => hb' cap sz es.length (by rw [e]))) (fun hm => .inr ?_)
      have hlen : (es.take lo ++ (List.replicate n tye.zero ++ es.drop (lo + n))).length = es.length := by simp; omega
      have hzz : tye.zero.length = sz := by rw [hb]; exact Nat.eq_of_beq_eq_true hty.zlen
      refine ⟨b, cap, _, t', by rw [hlen], setRow_heap w b us _ t' _ e2, ?_, by rw [hlen]; exact e4, ?_, ?_⟩
      · simp only [List.size_toArray, List.length_append, List.length_take, List.length_drop, Array.length_toList, hzl]
        rw [Nat.min_eq_left (by omega), e3]
        rw [e3] at hfit
        omega
      · intro q x hq
        rcases Nat.lt_or_ge q lo with h1 | h1
        · rw [List.getElem?_append_left (by simp; omega), List.getElem?_take, if_pos h1] at hq
          exact e5 q x hq
        · rw [List.getElem?_append_right (by simp; omega)] at hq
          simp only [List.length_take] at hq
          rw [Nat.min_eq_left (by omega)] at hq
          rcases Nat.lt_or_ge (q - lo) n with h2 | h2
          · rw [List.getElem?_append_left (by simpa using h2), List.getElem?_replicate, if_pos h2] at hq
            cases hq; exact hzz
          · rw [List.getElem?_append_right (by simpa using h2), List.getElem?_drop] at hq
            exact e5 _ x hq
      · intro q r x p hq hp
        have hpre : (us.toList.take (lo * sz)).length = lo * sz := by simp; omega
        rcases Nat.lt_or_ge q lo with h1 | h1
        · rw [List.getElem?_append_left (by simp; omega), List.getElem?_take, if_pos h1] at hq
          obtain ⟨u, hu, hdd⟩ := e6 q r x p hq hp
          have hr : r < sz := by rw [← e5 q x hq]; exact (List.getElem?_eq_some_iff.1 hp).1
          have hlt : q * sz + r < lo * sz := by
            have : (q + 1) * sz ≤ lo * sz := Nat.mul_le_mul_right _ h1
            rw [Nat.add_mul, Nat.one_mul] at this
            omega
          refine ⟨u, ?_, RepD.mono hm.cell hdd⟩
          simp only [List.getElem?_toArray, List.append_assoc]
          rw [List.getElem?_append_left (by omega), List.getElem?_take, if_pos hlt]
          simpa using hu
        · rw [List.getElem?_append_right (by simp; omega)] at hq
          simp only [List.length_take] at hq
          rw [Nat.min_eq_left (by omega)] at hq
          have hm2 : lo * sz ≤ q * sz := Nat.mul_le_mul_right _ h1
          have hsub : q * sz + r - lo * sz = (q - lo) * sz + r := by rw [Nat.sub_mul]; omega
          rcases Nat.lt_or_ge (q - lo) n with h2 | h2
          · rw [List.getElem?_append_left (by simpa using h2), List.getElem?_replicate, if_pos h2] at hq
            cases hq
            have hr : r < sz := by rw [← hzz]; exact (List.getElem?_eq_some_iff.1 hp).1
            have hlt : (q - lo) * sz + r < n * sz := by
              have : (q - lo + 1) * sz ≤ n * sz := Nat.mul_le_mul_right _ h2
              rw [Nat.add_mul, Nat.one_mul] at this
              omega
            refine ⟨zval p, ?_, zok_D (List.all_eq_true.1 hty.zok p (List.mem_of_getElem? hp))⟩
            simp only [List.getElem?_toArray, List.append_assoc]
            rw [List.getElem?_append_right (by omega), hpre, hsub]
            rw [List.getElem?_append_left (by rw [hzl]; exact hlt)]
            rw [zeroCells_at z.cells n (q - lo) r sz hzs h2 hr, hz2, List.getElem?_map, hp]
            rfl
          · rw [List.getElem?_append_right (by simpa using h2), List.getElem?_drop] at hq
            obtain ⟨u, hu, hdd⟩ := e6 _ r x p hq hp
            have hge : n * sz ≤ (q - lo) * sz := Nat.mul_le_mul_right _ h2
            refine ⟨u, ?_, RepD.mono hm.cell hdd⟩
            simp only [List.getElem?_toArray, List.append_assoc]
            rw [List.getElem?_append_right (by omega), hpre, hsub]
            rw [List.getElem?_append_right (by rw [hzl]; omega), hzl, List.getElem?_drop]
            simp only [List.length_replicate] at hu
            have e7 : lo * sz + n * sz + ((q - lo) * sz + r - n * sz) = (lo + n + (q - lo - n)) * sz + r := by
              rw [Nat.add_mul, Nat.add_mul, Nat.sub_mul (q - lo) n]
              omega
            rw [e7]
            simpa using hu

end
end Go.Vai

/- Each operation's effect on a pure state is its effect in memory: function values. No condition. -/
namespace Go.Vai

section
variable {Γ : Ctx} {E : Env} {β : Nat → Option RA} {st : St} {a : Act} {w : World} {o : Oper} {k : St → Prop} {K : Act → World → Prop} {Q : Exit → Act → World → Prop}

theorem Move.refl (w : World) (cx : Cx) : Move w w cx cx := ⟨fun _ _ _ h1 h2 => ⟨h1, h2⟩⟩
theorem Move.trans {w1 w2 w3 : World} {c1 c2 c3 : Cx} (h1 : Move w1 w2 c1 c2) (h2 : Move w2 w3 c2 c3) : Move w1 w3 c1 c3 :=
  ⟨fun b o v h3 h4 => h2.cell b o v (h1.cell b o v h3 h4).1 (h1.cell b o v h3 h4).2⟩

theorem frzAll_ok : ∀ {ps : List PV} {vs : List Value} {st : St} {β : Nat → Option RA} {F : List PV → St → Prop}, RepS Γ E β st a w → vs.length = ps.length →
    (∀ (i : Nat) p v, ps[i]? = some p → vs[i]? = some v → RepX w (E.cx β w) p v ∧ v.oneCell' = true) → frzAll ps st F →
    ∃ ps' st' β', F ps' st' ∧ RepS Γ E β' st' a w ∧ Move w w (E.cx β w) (E.cx β' w) ∧ ps'.length = vs.length ∧ ∀ (i : Nat) p v, ps'[i]? = some p → vs[i]? = some v → RepX w (E.cx β' w) p v ∧ v.oneCell' = true
  | [], [], st, β, F, h, _, _, hF => ⟨[], st, β, hF, h, Move.refl _ _, rfl, fun i p v hp => by simp at hp⟩
  | [], _ :: _, _, _, _, _, hl, _, _ => by simp at hl
  | _ :: _, [], _, _, _, _, hl, _, _ => by simp at hl
  | p :: r, v :: vs, st, β, F, h, hl, hr, hF => by
    have h0 := hr 0 p v rfl rfl
    have htl : ∀ (i : Nat) q u, r[i]? = some q → vs[i]? = some u → RepX w (E.cx β w) q u ∧ u.oneCell' = true := fun i q u hq hu => hr (i + 1) q u (by simpa using hq) (by simpa using hu)
    have cons : ∀ {β1 β' : Nat → Option RA} {ps' : List PV} {cs : List PV}, RepX w (E.cx β1 w) (.ept cs) v → Move w w (E.cx β1 w) (E.cx β' w) → (∀ (i : Nat) p v, ps'[i]? = some p → vs[i]? = some v → RepX w (E.cx β' w) p v ∧ v.oneCell' = true) →
        ∀ (i : Nat) p u, (PV.ept cs :: ps')[i]? = some p → (v :: vs)[i]? = some u → RepX w (E.cx β' w) p u ∧ u.oneCell' = true := by
      intro β1 β' ps' cs h1 hm h2 i q u hq hu
      cases i with
      | zero =>
        simp at hq hu
        subst hq; subst hu
        exact ⟨RepX.mono hm (fun k hk => by cases hk) h1, h0.2⟩
      | succ i => exact h2 i q u (by simpa using hq) (by simpa using hu)
    unfold frzAll at hF
    split at hF
    · rename_i h1; cases h1
    · rename_i j i off r' h1
      cases h1
      split at hF
      case h_1 => exact hF.elim
      rename_i hb
      simp only [Bool.and_eq_true, Bool.not_eq_true'] at hb
      obtain ⟨⟨⟨hi, hoff⟩, hj⟩, hno⟩ := hb
      have hi := Nat.eq_of_beq_eq_true hi
      have hoff := Nat.eq_of_beq_eq_true hoff
      have hj := Nat.le_of_ble_eq_true hj
      subst hi; subst hoff
      split at hF
      case h_2 => exact hF.elim
      rename_i cs hH
      split at hF
      case h_2 => exact hF.elim
      rename_i hD
      obtain ⟨h2, h3⟩ := h.frz hj hH hD
      have hm : Move w w (E.cx β w) (E.cx (upd β j none) w) := move_grown h (Nat.le_refl _) (fun _ _ _ => rfl) (fun b _ hb => onB_drop hb)
      obtain ⟨ps', st', β', hF', h4, h5, h6, h7⟩ := frzAll_ok h2 (by simpa using hl) (fun i q u hq hu => ⟨RepX.mono hm (fun k hk => by
        have hne : k ≠ j := fun e => by
          have := List.any_eq_true.2 ⟨q, List.mem_of_getElem? hq, e ▸ hk⟩
          rw [hno] at this; cases this
        show upd β j none k = β k
        rw [upd_at, if_neg hne]) (htl i q u hq hu).1, (htl i q u hq hu).2⟩) hF
      have h8 : RepX w (E.cx (upd β j none) w) (.ept cs) v := by
        have := h3 (.ptr j 0 0) v h0.1
        have e : frz0 j cs (.ptr j 0 0) = .ept cs := by
          show (match Nat.beq j j with | true => PV.ept (cs.drop 0) | false => _) = _
          rw [Nat.beq_refl]; rfl
        rw [e] at this
        exact this
      exact ⟨_, st', β', hF', h4, hm.trans h5, by simp [h6], cons h8 h5 h7⟩
    · rename_i cs r' h1
      cases h1
      obtain ⟨ps', st', β', hF', h4, h5, h6, h7⟩ := frzAll_ok h (by simpa using hl) htl hF
      exact ⟨_, st', β', hF', h4, h5, by simp [h6], cons h0.1 h5 h7⟩
    · exact hF.elim

/-- Only pointers may be captured. -/
theorem frzAll_kind : ∀ {ps : List PV} {st : St} {F : List PV → St → Prop}, frzAll ps st F → ∀ p ∈ ps, (∃ j i o, p = .ptr j i o) ∨ ∃ cs, p = .ept cs
  | [], _, _, _, p, hp => by cases hp
  | q :: r, st, F, hF, p, hp => by
    unfold frzAll at hF
    split at hF
    · rename_i h1; cases h1
    · rename_i j i off r' h1
      cases h1
      split at hF
      case h_1 => exact hF.elim
      split at hF
      case h_2 => exact hF.elim
      split at hF
      case h_2 => exact hF.elim
      rcases List.mem_cons.1 hp with h2 | h2
      · exact .inl ⟨j, i, off, h2⟩
      · exact frzAll_kind hF p h2
    · rename_i cs r' h1
      cases h1
      rcases List.mem_cons.1 hp with h2 | h2
      · exact .inr ⟨cs, h2⟩
      · exact frzAll_kind hF p h2
    · exact hF.elim

theorem op_makeFunc {fn : Fn} {first captured : Array Operand} (hop : o.op = .makeFunc fn first captured) (h : RepS Γ E β st a w) (hx : captured.toList.all (okOpd Γ.N) = true) (hw : opW Γ o st k) (hK : Nxt Γ E k K) (hdst : ∀ x, o.dst = some x → x < Γ.N) : o.wp Γ.P a w K Q := by
  unfold opW at hw
  rw [hop] at hw
  dsimp only at hw
  have ex : ∀ g, fn = .func g → first.toList = [] → (execOp a.eval o).run Γ.P w = .ok (.value (.func (.func g) #[] (captured.map a.eval))) w := by
    intro g h1 h2
    have h3 : first = #[] := by rw [← Array.toArray_toList (xs := first), h2]
    simp [execOp, hop, Instr.makeFunc, h1, h3]
  split at hw
  · rename_i g hfirst hcap
    have h1 := ex g rfl hfirst
    have h2 : captured = #[] := by
      rw [List.map_eq_nil_iff] at hcap
      rw [← Array.toArray_toList (xs := captured), hcap]
    subst h2
    exact fin_val0 h hK hdst (p := fnv g) (v := .func (.func g) #[] #[]) (by simpa using h1) (RepD.s _ rfl) hw
  · rename_i g c cs hfirst hcap
    have h1 := ex g rfl hfirst
    have hreps : ∀ (i : Nat) p v, (captured.toList.map st.ev)[i]? = some p → (captured.toList.map a.eval)[i]? = some v → RepX w (E.cx β w) p v ∧ v.oneCell' = true := by
      intro i p v hp hv
      have hk := frzAll_kind hw p (by rw [← hcap]; exact List.mem_of_getElem? hp)
      rw [List.getElem?_map] at hp hv
      cases hi : captured.toList[i]? with
      | none => rw [hi] at hp; cases hp
      | some x =>
        rw [hi] at hp hv
        cases hp; cases hv
        have hv := h.ev (mem_all hx (List.mem_of_getElem? hi))
        rcases hk with ⟨j, i, o, e⟩ | ⟨cs, e⟩
        · rw [e] at hv ⊢
          have hv' : RepX w (E.cx β w) (.ptr j i o) (a.eval x) := hv
          refine ⟨hv', ?_⟩
          obtain ⟨ra, _, h2⟩ := hv'
          cases ra with
          | nil_ => exact h2.elim
          | blk b c s l => have h2 : a.eval x = _ := h2; rw [h2]; rfl
        · rw [e] at hv ⊢
          exact ⟨hv, RepD.one hv⟩
    rw [← hcap] at hw
    obtain ⟨ps', st', β', hF, h4, _, h6, h7⟩ := frzAll_ok h (by simp) hreps hw
    refine wp_value h1 (hK _ _ _ ⟨β', h4.put (d := o.dst) (p := .clo g ps') ?_ hdst⟩ hF)
    exact ⟨captured.toList.map a.eval, by rw [← Array.toList_map], h6.symm, h7⟩
  · exact hw.elim

end
end Go.Vai

/- A call: what is handed over, and what comes back. No condition. -/
namespace Go.Vai

section
variable {w : World} {cx1 cx2 : Cx} {ks : List Nat} {n : Nat}

/-! ### The same value, its rows by other numbers -/
theorem ren0_fwd (hm : Move w w cx1 cx2) (hβ : ∀ j, j < n → cx2.β (ks.getD j 0) = cx1.β j) {p : PV} {v : Value} (hi : maxId0 n p = true) (h : RepX w cx1 p v) : RepX w cx2 (ren0 ks p) v := by
  cases p with
  | xs j o =>
    have := hβ j (by simpa [maxId0] using hi)
    cases o with
    | none => obtain ⟨ra, h1, h2⟩ := h; exact ⟨ra, this.trans h1, h2⟩
    | some q => obtain ⟨lo, m⟩ := q; obtain ⟨ra, h1, h2⟩ := h; exact ⟨ra, this.trans h1, h2⟩
  | ptr j i off =>
    have := hβ j (by simpa [maxId0] using hi)
    obtain ⟨ra, h1, h2⟩ := h
    exact ⟨ra, this.trans h1, h2⟩
  | nils => exact h
  | _ => exact RepD.mono hm.cell h
theorem ren0_bwd (hm : Move w w cx2 cx1) (hβ : ∀ j, j < n → cx2.β (ks.getD j 0) = cx1.β j) {p : PV} {v : Value} (hi : maxId0 n p = true) (h : RepX w cx2 (ren0 ks p) v) : RepX w cx1 p v := by
  cases p with
  | xs j o =>
    have := hβ j (by simpa [maxId0] using hi)
    cases o with
    | none => obtain ⟨ra, h1, h2⟩ := h; exact ⟨ra, this.symm.trans h1, h2⟩
    | some q => obtain ⟨lo, m⟩ := q; obtain ⟨ra, h1, h2⟩ := h; exact ⟨ra, this.symm.trans h1, h2⟩
  | ptr j i off =>
    have := hβ j (by simpa [maxId0] using hi)
    obtain ⟨ra, h1, h2⟩ := h
    exact ⟨ra, this.symm.trans h1, h2⟩
  | nils => exact h
  | _ => exact RepD.mono hm.cell h

theorem ren1_fwd (hm : Move w w cx1 cx2) (hβ : ∀ j, j < n → cx2.β (ks.getD j 0) = cx1.β j) {p : PV} {v : Value} (hi : maxId1 n p = true) (h : RepC w cx1 p v) : RepC w cx2 (ren1 ks p) v := by
  cases p with
  | clo f cs =>
    obtain ⟨us, h1, h2, h3⟩ := h
    refine ⟨us, h1, by simp [h2], fun i c u hc hu => ?_⟩
    rw [List.getElem?_map] at hc
    cases hci : cs[i]? with
    | none => rw [hci] at hc; cases hc
    | some c0 =>
      rw [hci] at hc
      cases hc
      exact ⟨ren0_fwd hm hβ (List.all_eq_true.1 hi c0 (List.mem_of_getElem? hci)) (h3 i c0 u hci hu).1, (h3 i c0 u hci hu).2⟩
  | bad => trivial
  | agg _ => exact h
  | tup _ => exact h
  | s x => exact ren0_fwd (p := .s x) hm hβ hi h
  | nils => exact ren0_fwd (p := .nils) hm hβ hi h
  | slc a b c => exact ren0_fwd (p := .slc a b c) hm hβ hi h
  | xs a b => exact ren0_fwd (p := .xs a b) hm hβ hi h
  | ptr a b c => exact ren0_fwd (p := .ptr a b c) hm hβ hi h
  | ept a => exact ren0_fwd (p := .ept a) hm hβ hi h
theorem ren1_bwd (hm : Move w w cx2 cx1) (hβ : ∀ j, j < n → cx2.β (ks.getD j 0) = cx1.β j) {p : PV} {v : Value} (hi : maxId1 n p = true) (h : RepC w cx2 (ren1 ks p) v) : RepC w cx1 p v := by
  cases p with
  | clo f cs =>
    obtain ⟨us, h1, h2, h3⟩ := h
    refine ⟨us, h1, by simpa using h2, fun i c u hc hu => ?_⟩
    have := h3 i (ren0 ks c) u (by rw [List.getElem?_map, hc]; rfl) hu
    exact ⟨ren0_bwd hm hβ (List.all_eq_true.1 hi c (List.mem_of_getElem? hc)) this.1, this.2⟩
  | bad => trivial
  | agg _ => exact h
  | tup _ => exact h
  | s x => exact ren0_bwd (p := .s x) hm hβ hi h
  | nils => exact ren0_bwd (p := .nils) hm hβ hi h
  | slc a b c => exact ren0_bwd (p := .slc a b c) hm hβ hi h
  | xs a b => exact ren0_bwd (p := .xs a b) hm hβ hi h
  | ptr a b c => exact ren0_bwd (p := .ptr a b c) hm hβ hi h
  | ept a => exact ren0_bwd (p := .ept a) hm hβ hi h

theorem renL_fwd (hm : Move w w cx1 cx2) (hβ : ∀ j, j < n → cx2.β (ks.getD j 0) = cx1.β j) {cs : List PV} {us : List Value} (hi : cs.all (maxId1 n) = true) (h : RepL w cx1 cs us) : RepL w cx2 (cs.map (ren1 ks)) us := by
  refine ⟨by simp [h.1], fun i c u hc hu => ?_⟩
  rw [List.getElem?_map] at hc
  cases hci : cs[i]? with
  | none => rw [hci] at hc; cases hc
  | some c0 =>
    rw [hci] at hc
    cases hc
    exact ⟨ren1_fwd hm hβ (List.all_eq_true.1 hi c0 (List.mem_of_getElem? hci)) (h.2 i c0 u hci hu).1, (h.2 i c0 u hci hu).2⟩
theorem renL_bwd (hm : Move w w cx2 cx1) (hβ : ∀ j, j < n → cx2.β (ks.getD j 0) = cx1.β j) {cs : List PV} {us : List Value} (hi : cs.all (maxId1 n) = true) (h : RepL w cx2 (cs.map (ren1 ks)) us) : RepL w cx1 cs us := by
  refine ⟨by simpa using h.1, fun i c u hc hu => ?_⟩
  have := h.2 i (ren1 ks c) u (by rw [List.getElem?_map, hc]; rfl) hu
  exact ⟨ren1_bwd hm hβ (List.all_eq_true.1 hi c (List.mem_of_getElem? hc)) this.1, this.2⟩

theorem ren2_fwd (hm : Move w w cx1 cx2) (hβ : ∀ j, j < n → cx2.β (ks.getD j 0) = cx1.β j) {p : PV} {v : Value} (hi : maxId2 n p = true) (h : Rep2 w cx1 p v) : Rep2 w cx2 (ren2 ks p) v := by
  cases p with
  | agg cs => obtain ⟨us, h1, h2⟩ := h; exact ⟨us, h1, renL_fwd hm hβ hi h2⟩
  | tup _ => exact h
  | s x => exact ren1_fwd (p := .s x) hm hβ hi h
  | nils => exact ren1_fwd (p := .nils) hm hβ hi h
  | slc a b c => exact ren1_fwd (p := .slc a b c) hm hβ hi h
  | xs a b => exact ren1_fwd (p := .xs a b) hm hβ hi h
  | ptr a b c => exact ren1_fwd (p := .ptr a b c) hm hβ hi h
  | ept a => exact ren1_fwd (p := .ept a) hm hβ hi h
  | clo a b => exact ren1_fwd (p := .clo a b) hm hβ hi h
  | bad => trivial
theorem ren2_bwd (hm : Move w w cx2 cx1) (hβ : ∀ j, j < n → cx2.β (ks.getD j 0) = cx1.β j) {p : PV} {v : Value} (hi : maxId2 n p = true) (h : RepV w cx2 (ren2 ks p) v) : RepV w cx1 p v := by
  cases p with
  | agg cs => obtain ⟨us, h1, h2⟩ := h; exact ⟨us, h1, renL_bwd hm hβ hi h2⟩
  | tup _ => cases hi
  | s x => exact ren1_bwd (p := .s x) hm hβ hi h
  | nils => exact ren1_bwd (p := .nils) hm hβ hi h
  | slc a b c => exact ren1_bwd (p := .slc a b c) hm hβ hi h
  | xs a b => exact ren1_bwd (p := .xs a b) hm hβ hi h
  | ptr a b c => exact ren1_bwd (p := .ptr a b c) hm hβ hi h
  | ept a => exact ren1_bwd (p := .ept a) hm hβ hi h
  | clo a b => exact ren1_bwd (p := .clo a b) hm hβ hi h
  | bad => trivial
theorem renV_fwd (hm : Move w w cx1 cx2) (hβ : ∀ j, j < n → cx2.β (ks.getD j 0) = cx1.β j) {p : PV} {v : Value} (hi : maxIdT n p = true) (h : RepV w cx1 p v) : RepV w cx2 (ren ks p) v := by
  have key : ∀ q, (∀ vs, q ≠ .tup vs) → maxId2 n q = true → RepV w cx1 q v → RepV w cx2 (ren2 ks q) v := fun q hq hi hr => by
    have h1 := ren2_fwd hm hβ hi (rep2_of_ne hq hr)
    exact repV_of2 h1
  cases p with
  | tup vs =>
    obtain ⟨us, h1, h2, h3⟩ := h
    refine ⟨us, h1, by simp [h2], fun i c u hc hu => ?_⟩
    rw [List.getElem?_map] at hc
    cases hci : vs[i]? with
    | none => rw [hci] at hc; cases hc
    | some c0 =>
      rw [hci] at hc
      cases hc
      exact ren2_fwd hm hβ (List.all_eq_true.1 hi c0 (List.mem_of_getElem? hci)) (h3 i c0 u hci hu)
  | s x => exact key (.s x) (fun vs => by simp) hi h
  | nils => exact key .nils (fun vs => by simp) hi h
  | slc a b c => exact key (.slc a b c) (fun vs => by simp) hi h
  | xs a b => exact key (.xs a b) (fun vs => by simp) hi h
  | ptr a b c => exact key (.ptr a b c) (fun vs => by simp) hi h
  | ept a => exact key (.ept a) (fun vs => by simp) hi h
  | clo a b => exact key (.clo a b) (fun vs => by simp) hi h
  | agg a => exact key (.agg a) (fun vs => by simp) hi h
  | bad => exact key .bad (fun vs => by simp) hi h

theorem renR_fwd (hm : Move w w cx1 cx2) (hβ : ∀ j, j < n → cx2.β (ks.getD j 0) = cx1.β j) {r : Row} {ra : RA} (hi : maxIdR n r = true) (h : RepRow w cx1 r ra) : RepRow w cx2 (renR ks r) ra := by
  cases r with
  | cell cs => obtain ⟨b, us, t, h1, h2, h3⟩ := h; exact ⟨b, us, t, by rw [h1]; simp, h2, renL_fwd hm hβ hi h3⟩
  | row sz es => exact RepRow.mono hm (fun k hk => by cases hk) (fun _ _ _ _ _ => rfl) h
theorem renR_bwd (hm : Move w w cx2 cx1) (hβ : ∀ j, j < n → cx2.β (ks.getD j 0) = cx1.β j) {r : Row} {ra : RA} (hi : maxIdR n r = true) (h : RepRow w cx2 (renR ks r) ra) : RepRow w cx1 r ra := by
  cases r with
  | cell cs => obtain ⟨b, us, t, h1, h2, h3⟩ := h; exact ⟨b, us, t, by rw [h1]; simp, h2, renL_bwd hm hβ hi h3⟩
  | row sz es => exact RepRow.mono hm (fun k hk => by cases hk) (fun _ _ _ _ _ => rfl) h

/-! ### Values that name no row -/
theorem all_no {f g : PV → Bool} {l : List PV} (h : l.all f = true) (hn : ∀ p, f p = true → g p = false) : l.any g = false := by
  rw [List.any_eq_false]
  intro x hx
  rw [hn x (List.all_eq_true.1 h x hx)]
  simp
theorem bare0_no {p : PV} (h : bare0 p = true) (k : Nat) : has0 k p = false := by cases p <;> first | rfl | cases h
theorem bare1_no {p : PV} (h : bare1 p = true) (k : Nat) : has1 k p = false := by
  cases p with
  | clo f cs => exact all_no (f := bare0) (g := has0 k) h (fun p h => bare0_no h k)
  | s x => exact bare0_no (p := .s x) h k
  | nils => exact bare0_no (p := .nils ) h k
  | slc a b c => exact bare0_no (p := .slc a b c) h k
  | xs a b => exact bare0_no (p := .xs a b) h k
  | ptr a b c => exact bare0_no (p := .ptr a b c) h k
  | ept a => exact bare0_no (p := .ept a) h k
  | agg a => exact bare0_no (p := .agg a) h k
  | tup a => exact bare0_no (p := .tup a) h k
  | bad => exact bare0_no (p := .bad ) h k
theorem bare2_no {p : PV} (h : bare2 p = true) (k : Nat) : has2 k p = false := by
  cases p with
  | agg cs => exact all_no (f := bare1) (g := has1 k) h (fun p h => bare1_no h k)
  | tup _ => cases h
  | s x => exact bare1_no (p := .s x) h k
  | nils => exact bare1_no (p := .nils ) h k
  | slc a b c => exact bare1_no (p := .slc a b c) h k
  | xs a b => exact bare1_no (p := .xs a b) h k
  | ptr a b c => exact bare1_no (p := .ptr a b c) h k
  | ept a => exact bare1_no (p := .ept a) h k
  | clo a b => exact bare1_no (p := .clo a b) h k
  | bad => exact bare1_no (p := .bad ) h k
theorem bareT_no {p : PV} (h : bareT p = true) (k : Nat) : has k p = false := by
  cases p with
  | tup cs => exact all_no (f := bare2) (g := has2 k) h (fun p h => bare2_no h k)
  | s x => exact bare2_no (p := .s x) h k
  | nils => exact bare2_no (p := .nils ) h k
  | slc a b c => exact bare2_no (p := .slc a b c) h k
  | xs a b => exact bare2_no (p := .xs a b) h k
  | ptr a b c => exact bare2_no (p := .ptr a b c) h k
  | ept a => exact bare2_no (p := .ept a) h k
  | clo a b => exact bare2_no (p := .clo a b) h k
  | agg a => exact bare2_no (p := .agg a) h k
  | bad => exact bare2_no (p := .bad ) h k

theorem dem1_ok {p : PV} {v : Value} (h : RepC w cx1 p v) : RepC w cx1 (dem1 p) v := by
  cases p with
  | slc sz es full =>
    obtain ⟨A, c, us, rfl, h1, _, h3, h4, h5⟩ := repV_slc (w := w) (cx := cx1) h
    exact RepD.slc sz es false A c us h1 (fun e => by cases e) h3 h4 h5
  | _ => exact h
theorem dem2_ok {p : PV} {v : Value} (h : RepV w cx1 p v) (ht : ∀ vs, p ≠ .tup vs) : RepV w cx1 (dem2 p) v := by
  cases p with
  | agg cs =>
    obtain ⟨us, h1, h2⟩ := h
    refine ⟨us, h1, ?_⟩
    have : ∀ (cs : List PV) (us : List Value), RepL w cx1 cs us → RepL w cx1 (demL cs) us := by
      intro cs
      induction cs with
      | nil => intro us h; exact h
      | cons p r ih =>
        intro us h
        cases us with
        | nil => simp [RepL] at h
        | cons u us =>
          rw [repL_cons] at h
          show RepL w cx1 (dem1 p :: demL r) (u :: us)
          rw [repL_cons]
          exact ⟨⟨dem1_ok h.1.1, h.1.2⟩, ih us h.2⟩
    exact this cs us h2
  | tup vs => exact absurd rfl (ht vs)
  | slc a b c => exact dem1_ok (p := .slc a b c) h
  | s x => exact h
  | nils => exact h
  | xs a b => exact h
  | ptr a b c => exact h
  | ept a => exact h
  | clo a b => exact h
  | bad => exact h
end

end Go.Vai
