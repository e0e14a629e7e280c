/- Plain definitions: lattices of levels and terms as data, with the functions on them. Nothing of the program is in this text. -/
import Derived.WalkKit
import Derived.Deep.Draws
import Derived.Deep.QuietTactic
namespace Go.Proofs.Ytpffcfmhiebhdaa
open Go.RowKit

/-- A lattice as the program holds it: how many levels, and of each the set of levels that it is below, as bits. -/
structure Lat where
  n : Nat
  up : List Nat
deriving DecidableEq, Inhabited

namespace Lat
def is (l : Lat) (a : Int) : Bool := decide (0 ≤ a) && decide (a < l.n)
def row (l : Lat) (a : Int) : Nat := l.up.getD a.toNat 0
def leq (l : Lat) (a b : Int) : Bool := l.is a && l.is b && (l.row a).testBit b.toNat
def hit (l : Lat) (both : Nat) (c : Nat) : Bool := both.testBit c && (l.up.getD c 0 &&& both == both)
def joinFrom (l : Lat) (both : Nat) : Nat → Nat → Int
  | 0, _ => -1
  | d + 1, c => if l.hit both c then c else joinFrom l both d (c + 1)
def join (l : Lat) (a b : Int) : Int := if l.is a && l.is b then l.joinFrom (l.row a &&& l.row b) l.n 0 else -1
def meetStep (l : Lat) (a b : Int) (best : Int) (c : Nat) : Int := if l.leq c a && l.leq c b && (best == -1 || l.leq best c) then c else best
def meetBest (l : Lat) (a b : Int) (k : Nat) : Int := (List.range k).foldl (l.meetStep a b) (-1)
def meetBad (l : Lat) (a b best : Int) (c : Nat) : Bool := l.leq c a && l.leq c b && !l.leq best c
def meetOff (l : Lat) (a b best : Int) (c : Nat) : Bool := l.leq c a && l.leq c b && !l.leq c best
def meet (l : Lat) (a b : Int) : Int :=
  if l.is a && l.is b then
    if (List.range l.n).any (l.meetOff a b (l.meetBest a b l.n)) then -1 else l.meetBest a b l.n
  else -1
def bottomStep (l : Lat) (best : Int) (c : Nat) : Int := if best == -1 || l.leq c best then c else best
def bottomTo (l : Lat) (k : Nat) : Int := (List.range k).foldl l.bottomStep (-1)
def bottom (l : Lat) : Int := l.bottomTo l.n
def topStep (l : Lat) (best : Int) (c : Nat) : Int := if best == -1 || l.leq best c then c else best
def topTo (l : Lat) (k : Nat) : Int := (List.range k).foldl l.topStep (-1)
def top (l : Lat) : Int := l.topTo l.n
/-- The closure: the first pair of levels, in order, of which the one's row lacks something that follows. -/
def lacks (l : Lat) (a b : Nat) : Bool := (l.up.getD a 0).testBit b && (l.up.getD a 0 ||| l.up.getD b 0) != l.up.getD a 0
def lackFrom (l : Lat) (a : Nat) : Nat → Nat → Option Nat
  | 0, _ => none
  | d + 1, b => if l.lacks a b then some b else lackFrom l a d (b + 1)
def lackRow (l : Lat) : Nat → Nat → Option (Nat × Nat)
  | 0, _ => none
  | d + 1, a => match l.lackFrom a l.n 0 with
    | some b => some (a, b)
    | none => lackRow l d (a + 1)
def fill (l : Lat) (a b : Nat) : Lat := { l with up := l.up.set a (l.up.getD a 0 ||| l.up.getD b 0) }
inductive Closes : Lat → Lat → Prop
  | done {l : Lat} (h : l.lackRow l.n 0 = none) : Closes l l
  | step {l l' : Lat} {a b : Nat} (h : l.lackRow l.n 0 = some (a, b)) (r : Closes (l.fill a b) l') : Closes l l'
/-- The making: first each level below itself, then the pairs, then the closure, then the look whether it is a lattice. -/
def startTo (n k : Nat) : Lat := ⟨n, (List.range 16).map fun a => if a < k then 2 ^ a else 0⟩
def pair (l : Lat) (p : Int × Int) : Option Lat := if l.is p.1 && l.is p.2 then some { l with up := l.up.set p.1.toNat (l.row p.1 ||| 2 ^ p.2.toNat) } else none
def pairs : List (Int × Int) → Lat → Option Lat
  | [], l => some l
  | p :: ps, l => match l.pair p with
    | some l' => pairs ps l'
    | none => none
def bad (l : Lat) (a b : Nat) : Bool := (a != b && l.leq a b && l.leq b a) || l.join a b == -1 || l.meet a b == -1
def good (l : Lat) : Bool := (List.range l.n).all fun a => (List.range l.n).all fun b => !l.bad a b
/-- What New answers: an error, or a lattice. -/
inductive Made (n : Int) (ps : List (Int × Int)) : Except Int Lat → Prop
  | range (h : n < 1 ∨ 16 < n) : Made n ps (.error 1)
  | level (h : 1 ≤ n ∧ n ≤ 16) (p : pairs ps (startTo n.toNat n.toNat) = none) : Made n ps (.error 1)
  | form {l1 l2 : Lat} (h : 1 ≤ n ∧ n ≤ 16) (p : pairs ps (startTo n.toNat n.toNat) = some l1) (c : Closes l1 l2) (g : l2.good = false) : Made n ps (.error 4)
  | ok {l1 l2 : Lat} (h : 1 ≤ n ∧ n ≤ 16) (p : pairs ps (startTo n.toNat n.toNat) = some l1) (c : Closes l1 l2) (g : l2.good = true) : Made n ps (.ok l2)
/-- What the machine's numbers bear. -/
structure WF (l : Lat) : Prop where
  n16 : l.n ≤ 16
  len : l.up.length = 16
  rng : ∀ x ∈ l.up, x < 18446744073709551616
def cells (l : Lat) : Array Value := (Value.int .i64 l.n :: l.up.map fun (x : Nat) => Value.int .u64 (x : Int)).toArray
end Lat

theorem Lat.row_lt {l : Lat} (h : l.WF) (a : Int) : l.row a < 18446744073709551616 := by
  unfold Lat.row
  rw [List.getD_eq_getElem?_getD]
  cases hx : l.up[a.toNat]? with
  | none => simp
  | some x => exact h.rng x (List.mem_of_getElem? hx)

theorem Lat.getD_lt {l : Lat} (h : l.WF) (a : Nat) : l.up.getD a 0 < 18446744073709551616 := by
  have := Lat.row_lt h (a : Int)
  simpa [Lat.row] using this

/-- Bits of the machine's numbers. -/
theorem u64_and_nat' (a b : Nat) (ha : a < 18446744073709551616) (hb : b < 18446744073709551616) : bits .and .u64 (a : Int) (b : Int) = ((a &&& b : Nat) : Int) := u64_and_nat a b ha hb
theorem bit_test (x k : Nat) (hx : x < 18446744073709551616) : (bits .and .u64 ((x : Int) / 2 ^ k) 1 == 1) = x.testBit k := by
  have h1 : ((x : Int) / 2 ^ k) = ((x / 2 ^ k : Nat) : Int) := by
    rw [Int.natCast_ediv]; simp
  have h2 : x / 2 ^ k < 18446744073709551616 := Nat.lt_of_le_of_lt (Nat.div_le_self _ _) hx
  rw [h1, show (1 : Int) = ((1 : Nat) : Int) from rfl, u64_and_nat _ _ h2 (by omega), Nat.and_one_is_mod, Nat.testBit_eq_decide_div_mod_eq]
  rw [Bool.eq_iff_iff]
  simp only [beq_iff_eq, decide_eq_true_eq]
  omega

/-- The world has only drawn. -/
def Drew (w w' : World) : Prop := ∃ k, w' = w.drewN k
theorem Drew.refl (w : World) : Drew w w := ⟨0, rfl⟩
theorem Drew.trans {a b c : World} (h : Drew a b) (k : Drew b c) : Drew a c := by
  obtain ⟨x, rfl⟩ := h; obtain ⟨y, rfl⟩ := k; exact ⟨x + y, by simp⟩
theorem Drew.below {w w' : World} (h : Drew w w') (B : Nat) : Below B w w' := by
  obtain ⟨x, rfl⟩ := h; exact ⟨rfl, rfl, rfl, Nat.le_refl _, fun _ _ => rfl⟩
theorem Drew.heap {w w' : World} (h : Drew w w') : w'.heap = w.heap := by
  obtain ⟨x, rfl⟩ := h; rfl

/-- What was there is as it was, but for the blocks in F; the streams are as they were. -/
structure Frm (F : List Nat) (w w' : World) : Prop where
  os : w'.os = w.os
  tape : w'.tape = w.tape
  output : w'.output = w.output
  size : w.heap.size ≤ w'.heap.size
  block : ∀ k, k < w.heap.size → k ∉ F → w'.heap[k]? = w.heap[k]?
namespace Frm
theorem refl (F : List Nat) (w : World) : Frm F w w := ⟨rfl, rfl, rfl, Nat.le_refl _, fun _ _ _ => rfl⟩
theorem trans {F F' : List Nat} {a b c : World} (h : Frm F a b) (k : Frm F' b c) (hF : ∀ x, x ∈ F' → x ∈ F ∨ a.heap.size ≤ x) : Frm F a c :=
  ⟨k.os.trans h.os, k.tape.trans h.tape, k.output.trans h.output, Nat.le_trans h.size k.size, fun i hi hn =>
    (k.block i (Nat.lt_of_lt_of_le hi h.size) (fun hx => (hF i hx).elim hn (fun hs => by omega))).trans (h.block i hi hn)⟩
theorem trans' {F : List Nat} {a b c : World} (h : Frm F a b) (k : Frm F b c) : Frm F a c := h.trans k (fun _ hx => .inl hx)
theorem trans0 {F : List Nat} {a b c : World} (h : Frm F a b) (k : Frm [] b c) : Frm F a c := h.trans k (fun _ hx => by simp at hx)
theorem mono {F F' : List Nat} {w w' : World} (h : Frm F w w') (hF : ∀ x, x ∈ F → x ∈ F') : Frm F' w w' :=
  ⟨h.os, h.tape, h.output, h.size, fun k hk hn => h.block k hk (fun hx => hn (hF k hx))⟩
theorem alloc {F : List Nat} {a w : World} (h : Frm F a w) (o : Obj) : Frm F a (w.alloc o) :=
  h.trans (F' := []) ⟨rfl, rfl, rfl, by simp, fun k hk _ => Below.heap_alloc _ _ _ hk⟩ (fun _ hx => by simp at hx)
theorem drew {F : List Nat} {a w : World} (h : Frm F a w) : Frm F a w.drew := ⟨h.os, h.tape, h.output, h.size, h.block⟩
theorem drewN {F : List Nat} {a w : World} (h : Frm F a w) (n : Nat) : Frm F a (w.drewN n) := ⟨h.os, h.tape, h.output, h.size, h.block⟩
theorem setCell {F : List Nat} {a w : World} (h : Frm F a w) {p : Addr} (hp : p.block ∈ F ∨ a.heap.size ≤ p.block) (u : Value) : Frm F a (w.setCell p u) :=
  ⟨h.os, h.tape, h.output, by simpa [World.setCell] using h.size, fun k hk hn => by
    rw [Below.heap_setCell]
    · exact h.block k hk hn
    · rintro rfl
      exact hp.elim hn (fun hs => by omega)⟩
theorem of_below {w w' : World} (h : Below w.heap.size w w') : Frm [] w w' := ⟨h.os, h.tape, h.output, h.size, fun k hk _ => h.block k hk⟩
theorem below {w w' : World} (h : Frm [] w w') : Below w.heap.size w w' := ⟨h.os, h.tape, h.output, h.size, fun k hk => h.block k hk (by simp)⟩
theorem grown {F : List Nat} {a w w' : World} {row : Option Nat} (h : Frm F a w) (hg : w.grownBy w' row) (hr : ∀ k, row = some k → k ∈ F ∨ a.heap.size ≤ k) : Frm F a w' :=
  ⟨hg.os.trans h.os, hg.tape.trans h.tape, hg.output.trans h.output, Nat.le_trans h.size hg.size, fun k hk hn =>
    (hg.block k (Nat.lt_of_lt_of_le hk h.size) (fun e => (hr k e.symm).elim hn (fun hs => by omega))).trans (h.block k hk hn)⟩
theorem cell {F : List Nat} {w w' : World} (h : Frm F w w') {b o : Nat} {s : Option Nat} (hb : b < w.heap.size) (hn : b ∉ F) : w'.cell? ⟨b, o, s⟩ = w.cell? ⟨b, o, s⟩ :=
  World.cell?_of_block (w := w) (a := ⟨b, o, s⟩) (h.block b hb hn)
theorem frozen {F : List Nat} {w w' : World} (h : Frm F w w') {b o : Nat} {s : Option Nat} (hb : b < w.heap.size) (hn : b ∉ F) : w'.frozen? ⟨b, o, s⟩ = w.frozen? ⟨b, o, s⟩ :=
  World.frozen?_of_block (w := w) (a := ⟨b, o, s⟩) (h.block b hb hn)
theorem reads {w w' : World} (h : Frm [] w w') : (∀ b o, b < w.heap.size → w'.cell? ⟨b, o, none⟩ = w.cell? ⟨b, o, none⟩) ∧ (∀ b o, b < w.heap.size → w'.frozen? ⟨b, o, none⟩ = w.frozen? ⟨b, o, none⟩) :=
  ⟨fun _ _ hb => h.cell hb (by simp), fun _ _ hb => h.frozen hb (by simp)⟩
theorem reads1 {f : Nat} {w w' : World} (h : Frm [f] w w') : (∀ b o, b < w.heap.size → b ≠ f → w'.cell? ⟨b, o, none⟩ = w.cell? ⟨b, o, none⟩) ∧ (∀ b o, b < w.heap.size → b ≠ f → w'.frozen? ⟨b, o, none⟩ = w.frozen? ⟨b, o, none⟩) :=
  ⟨fun _ _ hb hn => h.cell hb (by simpa using hn), fun _ _ hb hn => h.frozen hb (by simpa using hn)⟩
theorem at_ {F : List Nat} {w w' : World} (h : Frm F w w') {b : Nat} {o : Obj} (hb : w.heap[b]? = some o) (hn : b ∉ F) : w'.heap[b]? = some o :=
  (h.block b (Array.getElem?_eq_some_iff.1 hb).1 hn).trans hb
theorem at0 {w w' : World} (h : Frm [] w w') {b : Nat} {o : Obj} (hb : w.heap[b]? = some o) : w'.heap[b]? = some o := h.at_ hb (by simp)
end Frm
theorem heap_setCell_at {w : World} {b : Nat} {cs : Array Value} {t : TypeId} {fz : Nat × Nat} (h : w.heap[b]? = some (.cells cs t fz)) (i : Nat) (u : Value) :
    (w.setCell ⟨b, i, none⟩ u).heap[b]? = some (.cells (cs.setIfInBounds i u) t fz) := by
  simp [World.setCell, Array.getElem?_modify, h]
theorem heap_setCell_ne (w : World) (a : Addr) (v : Value) {k : Nat} (h : k ≠ a.block) : (w.setCell a v).heap[k]? = w.heap[k]? := by
  simp [World.setCell, Array.getElem?_modify, Ne.symm h]
theorem cell_other (w : World) {b c o o' : Nat} (h : b ≠ c) (v : Value) : (w.setCell ⟨b, o, none⟩ v).cell? ⟨c, o', none⟩ = w.cell? ⟨c, o', none⟩ := by
  simp [World.setCell, World.cell?, Array.getElem?_modify, h]
theorem box_store4 {w : World} {b : Nat} {c0 c1 c2 c3 : Value} {ty : TypeId} (h : w.heap[b]? = some (.cells #[c0, c1, c2, c3] ty (0, 0))) (d0 d1 d2 d3 : Value) :
    ((((w.setCell ⟨b, 0, none⟩ d0).setCell ⟨b, 1, none⟩ d1).setCell ⟨b, 2, none⟩ d2).setCell ⟨b, 3, none⟩ d3).heap[b]? = some (.cells #[d0, d1, d2, d3] ty (0, 0)) := by
  rw [heap_setCell_at (heap_setCell_at (heap_setCell_at (heap_setCell_at h 0 d0) 1 d1) 2 d2) 3 d3]
  rfl
theorem blk4 {w : World} {b : Nat} {c0 c1 c2 c3 : Value} {ty : TypeId} (h : w.heap[b]? = some (.cells #[c0, c1, c2, c3] ty (0, 0))) :
    w.cell? ⟨b, 0, none⟩ = some c0 ∧ w.cell? ⟨b, 1, none⟩ = some c1 ∧ w.cell? ⟨b, 2, none⟩ = some c2 ∧ w.cell? ⟨b, 3, none⟩ = some c3 ∧ (∀ o, w.frozen? ⟨b, o, none⟩ = false) ∧ b < w.heap.size :=
  ⟨by simp [World.cell?, h], by simp [World.cell?, h], by simp [World.cell?, h], by simp [World.cell?, h], fun o => by simp [World.frozen?, h], (Array.getElem?_eq_some_iff.1 h).1⟩
theorem blk1 {w : World} {b : Nat} {c0 : Value} {ty : TypeId} (h : w.heap[b]? = some (.cells #[c0] ty (0, 0))) :
    w.cell? ⟨b, 0, none⟩ = some c0 ∧ (∀ o, w.frozen? ⟨b, o, none⟩ = false) ∧ b < w.heap.size :=
  ⟨by simp [World.cell?, h], fun o => by simp [World.frozen?, h], (Array.getElem?_eq_some_iff.1 h).1⟩
theorem blk2 {w : World} {b : Nat} {c0 c1 : Value} {ty : TypeId} (h : w.heap[b]? = some (.cells #[c0, c1] ty (0, 0))) :
    w.cell? ⟨b, 0, none⟩ = some c0 ∧ w.cell? ⟨b, 1, none⟩ = some c1 ∧ (∀ o, w.frozen? ⟨b, o, none⟩ = false) ∧ b < w.heap.size :=
  ⟨by simp [World.cell?, h], by simp [World.cell?, h], fun o => by simp [World.frozen?, h], (Array.getElem?_eq_some_iff.1 h).1⟩
theorem Drew.frm {w w' : World} (h : Drew w w') (F : List Nat) : Frm F w w' := by
  obtain ⟨x, rfl⟩ := h; exact (Frm.refl F w).drewN x
theorem quiet_eq {P : Program} {f : FuncId} {args : Array Value} {w : World} {n : Nat} {v : Value}
    (h : Calls P f args (w.drewN n) fun e w' => e = .returned v ∧ w.drewN n = w') : Calls P f args (w.drewN n) fun e w'' => e = .returned v ∧ ∃ m, w'' = w.drewN m :=
  h.mono fun _ _ ⟨he, hm⟩ => ⟨he, n, hm.symm⟩
theorem quiet_drew {P : Program} {f : FuncId} {args : Array Value} {w : World} {n : Nat} {v : Value}
    (h : Calls P f args (w.drewN n) fun e w' => e = .returned v ∧ Drew (w.drewN n) w') : Calls P f args (w.drewN n) fun e w'' => e = .returned v ∧ ∃ m, w'' = w.drewN m :=
  Calls.quiet_of h
theorem alloc_heap_new (w : World) (o : Obj) : (w.alloc o).heap[w.heap.size]? = some o := by
  show (w.heap.push o)[w.heap.size]? = _
  simp
theorem heap_alloc_at (w : World) (o : Obj) (k : Nat) : (w.alloc o).heap[k]? = if k = w.heap.size then some o else w.heap[k]? := by
  show (w.heap.push o)[k]? = _
  rw [Array.getElem?_push]
theorem heap_size_alloc (w : World) (o : Obj) : (w.alloc o).heap.size = w.heap.size + 1 := by
  show (w.heap.push o).size = _
  simp
theorem ret_int {k : IntKind} {a b : Int} (h : a = b) : Ending.returned (.int k a) = .returned (.int k b) := by rw [h]
theorem ret_bool {a b : Bool} (h : a = b) : Ending.returned (.bool a) = .returned (.bool b) := by rw [h]
end Go.Proofs.Ytpffcfmhiebhdaa
