/- Contracts and plain laws: Pure Latt Terms TermMem Seal Acc SealB LattP SealC. -/
import Derived.WalkKit
import Derived.Deep.Draws
import Derived.Deep.QuietTactic
import Derived.Test.YtkiofaojokofbaaProg
import Derived.WalkSpells
import Derived.WalkLawsBesides
import Derived.BigQuiet
import Derived.Deep.DeepCutAuto
import Derived.Lib.Hide
import Derived.Deep.RegionHeld3
import Derived.Handy
import Derived.Maps.AppendAt
import Derived.Deep.LoopGhost
namespace Go.Proofs.Ytkiofaojokofbaa
open Go.RowKit

/-- A lattice as the program holds it: how many levels, and of each the set of levels that it is below, as bits. -/
structure Lat where
  n : Nat
  up : List Nat
deriving DecidableEq, Inhabited

namespace Lat
def is (l : Lat) (a : Int) : Bool := decide (0 ≤ a) && decide (a < l.n)
def row (l : Lat) (a : Int) : Nat := l.up.getD a.toNat 0
def leq (l : Lat) (a b : Int) : Bool := l.is a && l.is b && (l.row a).testBit b.toNat
def hit (l : Lat) (both : Nat) (c : Nat) : Bool := both.testBit c && (l.up.getD c 0 &&& both == both)
def joinFrom (l : Lat) (both : Nat) : Nat → Nat → Int
  | 0, _ => -1
  | d + 1, c => if l.hit both c then c else joinFrom l both d (c + 1)
def join (l : Lat) (a b : Int) : Int := if l.is a && l.is b then l.joinFrom (l.row a &&& l.row b) l.n 0 else -1
def meetStep (l : Lat) (a b : Int) (best : Int) (c : Nat) : Int := if l.leq c a && l.leq c b && (best == -1 || l.leq best c) then c else best
def meetBest (l : Lat) (a b : Int) (k : Nat) : Int := (List.range k).foldl (l.meetStep a b) (-1)
def meetBad (l : Lat) (a b best : Int) (c : Nat) : Bool := l.leq c a && l.leq c b && !l.leq best c
def meetOff (l : Lat) (a b best : Int) (c : Nat) : Bool := l.leq c a && l.leq c b && !l.leq c best
def meet (l : Lat) (a b : Int) : Int :=
  if l.is a && l.is b then
    if (List.range l.n).any (l.meetOff a b (l.meetBest a b l.n)) then -1 else l.meetBest a b l.n
  else -1
def bottomStep (l : Lat) (best : Int) (c : Nat) : Int := if best == -1 || l.leq c best then c else best
def bottomTo (l : Lat) (k : Nat) : Int := (List.range k).foldl l.bottomStep (-1)
def bottom (l : Lat) : Int := l.bottomTo l.n
def topStep (l : Lat) (best : Int) (c : Nat) : Int := if best == -1 || l.leq best c then c else best
def topTo (l : Lat) (k : Nat) : Int := (List.range k).foldl l.topStep (-1)
def top (l : Lat) : Int := l.topTo l.n
/-- The closure: the first pair of levels, in order, of which the one's row lacks something that follows. -/
def lacks (l : Lat) (a b : Nat) : Bool := (l.up.getD a 0).testBit b && (l.up.getD a 0 ||| l.up.getD b 0) != l.up.getD a 0
def lackFrom (l : Lat) (a : Nat) : Nat → Nat → Option Nat
  | 0, _ => none
  | d + 1, b => if l.lacks a b then some b else lackFrom l a d (b + 1)
def lackRow (l : Lat) : Nat → Nat → Option (Nat × Nat)
  | 0, _ => none
  | d + 1, a => match l.lackFrom a l.n 0 with
    | some b => some (a, b)
    | none => lackRow l d (a + 1)
def fill (l : Lat) (a b : Nat) : Lat := { l with up := l.up.set a (l.up.getD a 0 ||| l.up.getD b 0) }
inductive Closes : Lat → Lat → Prop
  | done {l : Lat} (h : l.lackRow l.n 0 = none) : Closes l l
  | step {l l' : Lat} {a b : Nat} (h : l.lackRow l.n 0 = some (a, b)) (r : Closes (l.fill a b) l') : Closes l l'
/-- The making: first each level below itself, then the pairs, then the closure, then the look whether it is a lattice. -/
def startTo (n k : Nat) : Lat := ⟨n, (List.range 16).map fun a => if a < k then 2 ^ a else 0⟩
def pair (l : Lat) (p : Int × Int) : Option Lat := if l.is p.1 && l.is p.2 then some { l with up := l.up.set p.1.toNat (l.row p.1 ||| 2 ^ p.2.toNat) } else none
def pairs : List (Int × Int) → Lat → Option Lat
  | [], l => some l
  | p :: ps, l => match l.pair p with
    | some l' => pairs ps l'
    | none => none
def bad (l : Lat) (a b : Nat) : Bool := (a != b && l.leq a b && l.leq b a) || l.join a b == -1 || l.meet a b == -1
def good (l : Lat) : Bool := (List.range l.n).all fun a => (List.range l.n).all fun b => !l.bad a b
/-- What New answers: an error, or a lattice. -/
inductive Made (n : Int) (ps : List (Int × Int)) : Except Int Lat → Prop
  | range (h : n < 1 ∨ 16 < n) : Made n ps (.error 1)
  | level (h : 1 ≤ n ∧ n ≤ 16) (p : pairs ps (startTo n.toNat n.toNat) = none) : Made n ps (.error 1)
  | form {l1 l2 : Lat} (h : 1 ≤ n ∧ n ≤ 16) (p : pairs ps (startTo n.toNat n.toNat) = some l1) (c : Closes l1 l2) (g : l2.good = false) : Made n ps (.error 4)
  | ok {l1 l2 : Lat} (h : 1 ≤ n ∧ n ≤ 16) (p : pairs ps (startTo n.toNat n.toNat) = some l1) (c : Closes l1 l2) (g : l2.good = true) : Made n ps (.ok l2)
/-- What the machine's numbers bear. -/
structure WF (l : Lat) : Prop where
  n16 : l.n ≤ 16
  len : l.up.length = 16
  rng : ∀ x ∈ l.up, x < 18446744073709551616
def cells (l : Lat) : Array Value := (Value.int .i64 l.n :: l.up.map fun (x : Nat) => Value.int .u64 (x : Int)).toArray
end Lat

theorem Lat.row_lt {l : Lat} (h : l.WF) (a : Int) : l.row a < 18446744073709551616 := by
  unfold Lat.row
  rw [List.getD_eq_getElem?_getD]
  cases hx : l.up[a.toNat]? with
  | none => simp
  | some x => exact h.rng x (List.mem_of_getElem? hx)

theorem Lat.getD_lt {l : Lat} (h : l.WF) (a : Nat) : l.up.getD a 0 < 18446744073709551616 := by
  have := Lat.row_lt h (a : Int)
  simpa [Lat.row] using this

/-- Bits of the machine's numbers. -/
theorem u64_and_nat' (a b : Nat) (ha : a < 18446744073709551616) (hb : b < 18446744073709551616) : bits .and .u64 (a : Int) (b : Int) = ((a &&& b : Nat) : Int) := u64_and_nat a b ha hb
theorem bit_test (x k : Nat) (hx : x < 18446744073709551616) : (bits .and .u64 ((x : Int) / 2 ^ k) 1 == 1) = x.testBit k := by
  have h1 : ((x : Int) / 2 ^ k) = ((x / 2 ^ k : Nat) : Int) := by
    rw [Int.natCast_ediv]; simp
  have h2 : x / 2 ^ k < 18446744073709551616 := Nat.lt_of_le_of_lt (Nat.div_le_self _ _) hx
  rw [h1, show (1 : Int) = ((1 : Nat) : Int) from rfl, u64_and_nat _ _ h2 (by omega), Nat.and_one_is_mod, Nat.testBit_eq_decide_div_mod_eq]
  rw [Bool.eq_iff_iff]
  simp only [beq_iff_eq, decide_eq_true_eq]
  omega

/-- The world has only drawn. -/
def Drew (w w' : World) : Prop := ∃ k, w' = w.drewN k
theorem Drew.refl (w : World) : Drew w w := ⟨0, rfl⟩
theorem Drew.trans {a b c : World} (h : Drew a b) (k : Drew b c) : Drew a c := by
  obtain ⟨x, rfl⟩ := h; obtain ⟨y, rfl⟩ := k; exact ⟨x + y, by simp⟩
theorem Drew.below {w w' : World} (h : Drew w w') (B : Nat) : Below B w w' := by
  obtain ⟨x, rfl⟩ := h; exact ⟨rfl, rfl, rfl, Nat.le_refl _, fun _ _ => rfl⟩
theorem Drew.heap {w w' : World} (h : Drew w w') : w'.heap = w.heap := by
  obtain ⟨x, rfl⟩ := h; rfl

/-- What was there is as it was, but for the blocks in F; the streams are as they were. -/
structure Frm (F : List Nat) (w w' : World) : Prop where
  os : w'.os = w.os
  tape : w'.tape = w.tape
  output : w'.output = w.output
  size : w.heap.size ≤ w'.heap.size
  block : ∀ k, k < w.heap.size → k ∉ F → w'.heap[k]? = w.heap[k]?
namespace Frm
theorem refl (F : List Nat) (w : World) : Frm F w w := ⟨rfl, rfl, rfl, Nat.le_refl _, fun _ _ _ => rfl⟩
theorem trans {F F' : List Nat} {a b c : World} (h : Frm F a b) (k : Frm F' b c) (hF : ∀ x, x ∈ F' → x ∈ F ∨ a.heap.size ≤ x) : Frm F a c :=
  ⟨k.os.trans h.os, k.tape.trans h.tape, k.output.trans h.output, Nat.le_trans h.size k.size, fun i hi hn =>
    (k.block i (Nat.lt_of_lt_of_le hi h.size) (fun hx => (hF i hx).elim hn (fun hs => by omega))).trans (h.block i hi hn)⟩
theorem trans' {F : List Nat} {a b c : World} (h : Frm F a b) (k : Frm F b c) : Frm F a c := h.trans k (fun _ hx => .inl hx)
theorem trans0 {F : List Nat} {a b c : World} (h : Frm F a b) (k : Frm [] b c) : Frm F a c := h.trans k (fun _ hx => by simp at hx)
theorem mono {F F' : List Nat} {w w' : World} (h : Frm F w w') (hF : ∀ x, x ∈ F → x ∈ F') : Frm F' w w' :=
  ⟨h.os, h.tape, h.output, h.size, fun k hk hn => h.block k hk (fun hx => hn (hF k hx))⟩
theorem alloc {F : List Nat} {a w : World} (h : Frm F a w) (o : Obj) : Frm F a (w.alloc o) :=
  h.trans (F' := []) ⟨rfl, rfl, rfl, by simp, fun k hk _ => Below.heap_alloc _ _ _ hk⟩ (fun _ hx => by simp at hx)
theorem drew {F : List Nat} {a w : World} (h : Frm F a w) : Frm F a w.drew := ⟨h.os, h.tape, h.output, h.size, h.block⟩
theorem drewN {F : List Nat} {a w : World} (h : Frm F a w) (n : Nat) : Frm F a (w.drewN n) := ⟨h.os, h.tape, h.output, h.size, h.block⟩
theorem setCell {F : List Nat} {a w : World} (h : Frm F a w) {p : Addr} (hp : p.block ∈ F ∨ a.heap.size ≤ p.block) (u : Value) : Frm F a (w.setCell p u) :=
  ⟨h.os, h.tape, h.output, by simpa [World.setCell] using h.size, fun k hk hn => by
    rw [Below.heap_setCell]
    · exact h.block k hk hn
    · rintro rfl
      exact hp.elim hn (fun hs => by omega)⟩
theorem of_below {w w' : World} (h : Below w.heap.size w w') : Frm [] w w' := ⟨h.os, h.tape, h.output, h.size, fun k hk _ => h.block k hk⟩
theorem below {w w' : World} (h : Frm [] w w') : Below w.heap.size w w' := ⟨h.os, h.tape, h.output, h.size, fun k hk => h.block k hk (by simp)⟩
theorem grown {F : List Nat} {a w w' : World} {row : Option Nat} (h : Frm F a w) (hg : w.grownBy w' row) (hr : ∀ k, row = some k → k ∈ F ∨ a.heap.size ≤ k) : Frm F a w' :=
  ⟨hg.os.trans h.os, hg.tape.trans h.tape, hg.output.trans h.output, Nat.le_trans h.size hg.size, fun k hk hn =>
    (hg.block k (Nat.lt_of_lt_of_le hk h.size) (fun e => (hr k e.symm).elim hn (fun hs => by omega))).trans (h.block k hk hn)⟩
theorem cell {F : List Nat} {w w' : World} (h : Frm F w w') {b o : Nat} {s : Option Nat} (hb : b < w.heap.size) (hn : b ∉ F) : w'.cell? ⟨b, o, s⟩ = w.cell? ⟨b, o, s⟩ :=
  World.cell?_of_block (w := w) (a := ⟨b, o, s⟩) (h.block b hb hn)
theorem frozen {F : List Nat} {w w' : World} (h : Frm F w w') {b o : Nat} {s : Option Nat} (hb : b < w.heap.size) (hn : b ∉ F) : w'.frozen? ⟨b, o, s⟩ = w.frozen? ⟨b, o, s⟩ :=
  World.frozen?_of_block (w := w) (a := ⟨b, o, s⟩) (h.block b hb hn)
theorem reads {w w' : World} (h : Frm [] w w') : (∀ b o, b < w.heap.size → w'.cell? ⟨b, o, none⟩ = w.cell? ⟨b, o, none⟩) ∧ (∀ b o, b < w.heap.size → w'.frozen? ⟨b, o, none⟩ = w.frozen? ⟨b, o, none⟩) :=
  ⟨fun _ _ hb => h.cell hb (by simp), fun _ _ hb => h.frozen hb (by simp)⟩
theorem reads1 {f : Nat} {w w' : World} (h : Frm [f] w w') : (∀ b o, b < w.heap.size → b ≠ f → w'.cell? ⟨b, o, none⟩ = w.cell? ⟨b, o, none⟩) ∧ (∀ b o, b < w.heap.size → b ≠ f → w'.frozen? ⟨b, o, none⟩ = w.frozen? ⟨b, o, none⟩) :=
  ⟨fun _ _ hb hn => h.cell hb (by simpa using hn), fun _ _ hb hn => h.frozen hb (by simpa using hn)⟩
theorem at_ {F : List Nat} {w w' : World} (h : Frm F w w') {b : Nat} {o : Obj} (hb : w.heap[b]? = some o) (hn : b ∉ F) : w'.heap[b]? = some o :=
  (h.block b (Array.getElem?_eq_some_iff.1 hb).1 hn).trans hb
theorem at0 {w w' : World} (h : Frm [] w w') {b : Nat} {o : Obj} (hb : w.heap[b]? = some o) : w'.heap[b]? = some o := h.at_ hb (by simp)
end Frm
theorem heap_setCell_at {w : World} {b : Nat} {cs : Array Value} {t : TypeId} {fz : Nat × Nat} (h : w.heap[b]? = some (.cells cs t fz)) (i : Nat) (u : Value) :
    (w.setCell ⟨b, i, none⟩ u).heap[b]? = some (.cells (cs.setIfInBounds i u) t fz) := by
  simp [World.setCell, Array.getElem?_modify, h]
theorem heap_setCell_ne (w : World) (a : Addr) (v : Value) {k : Nat} (h : k ≠ a.block) : (w.setCell a v).heap[k]? = w.heap[k]? := by
  simp [World.setCell, Array.getElem?_modify, Ne.symm h]
theorem cell_other (w : World) {b c o o' : Nat} (h : b ≠ c) (v : Value) : (w.setCell ⟨b, o, none⟩ v).cell? ⟨c, o', none⟩ = w.cell? ⟨c, o', none⟩ := by
  simp [World.setCell, World.cell?, Array.getElem?_modify, h]
theorem box_store4 {w : World} {b : Nat} {c0 c1 c2 c3 : Value} {ty : TypeId} (h : w.heap[b]? = some (.cells #[c0, c1, c2, c3] ty (0, 0))) (d0 d1 d2 d3 : Value) :
    ((((w.setCell ⟨b, 0, none⟩ d0).setCell ⟨b, 1, none⟩ d1).setCell ⟨b, 2, none⟩ d2).setCell ⟨b, 3, none⟩ d3).heap[b]? = some (.cells #[d0, d1, d2, d3] ty (0, 0)) := by
  rw [heap_setCell_at (heap_setCell_at (heap_setCell_at (heap_setCell_at h 0 d0) 1 d1) 2 d2) 3 d3]
  rfl
theorem blk4 {w : World} {b : Nat} {c0 c1 c2 c3 : Value} {ty : TypeId} (h : w.heap[b]? = some (.cells #[c0, c1, c2, c3] ty (0, 0))) :
    w.cell? ⟨b, 0, none⟩ = some c0 ∧ w.cell? ⟨b, 1, none⟩ = some c1 ∧ w.cell? ⟨b, 2, none⟩ = some c2 ∧ w.cell? ⟨b, 3, none⟩ = some c3 ∧ (∀ o, w.frozen? ⟨b, o, none⟩ = false) ∧ b < w.heap.size :=
  ⟨by simp [World.cell?, h], by simp [World.cell?, h], by simp [World.cell?, h], by simp [World.cell?, h], fun o => by simp [World.frozen?, h], (Array.getElem?_eq_some_iff.1 h).1⟩
theorem blk1 {w : World} {b : Nat} {c0 : Value} {ty : TypeId} (h : w.heap[b]? = some (.cells #[c0] ty (0, 0))) :
    w.cell? ⟨b, 0, none⟩ = some c0 ∧ (∀ o, w.frozen? ⟨b, o, none⟩ = false) ∧ b < w.heap.size :=
  ⟨by simp [World.cell?, h], fun o => by simp [World.frozen?, h], (Array.getElem?_eq_some_iff.1 h).1⟩
theorem blk2 {w : World} {b : Nat} {c0 c1 : Value} {ty : TypeId} (h : w.heap[b]? = some (.cells #[c0, c1] ty (0, 0))) :
    w.cell? ⟨b, 0, none⟩ = some c0 ∧ w.cell? ⟨b, 1, none⟩ = some c1 ∧ (∀ o, w.frozen? ⟨b, o, none⟩ = false) ∧ b < w.heap.size :=
  ⟨by simp [World.cell?, h], by simp [World.cell?, h], fun o => by simp [World.frozen?, h], (Array.getElem?_eq_some_iff.1 h).1⟩
theorem Drew.frm {w w' : World} (h : Drew w w') (F : List Nat) : Frm F w w' := by
  obtain ⟨x, rfl⟩ := h; exact (Frm.refl F w).drewN x
theorem quiet_eq {P : Program} {f : FuncId} {args : Array Value} {w : World} {n : Nat} {v : Value}
    (h : Calls P f args (w.drewN n) fun e w' => e = .returned v ∧ w.drewN n = w') : Calls P f args (w.drewN n) fun e w'' => e = .returned v ∧ ∃ m, w'' = w.drewN m :=
  h.mono fun _ _ ⟨he, hm⟩ => ⟨he, n, hm.symm⟩
theorem quiet_drew {P : Program} {f : FuncId} {args : Array Value} {w : World} {n : Nat} {v : Value}
    (h : Calls P f args (w.drewN n) fun e w' => e = .returned v ∧ Drew (w.drewN n) w') : Calls P f args (w.drewN n) fun e w'' => e = .returned v ∧ ∃ m, w'' = w.drewN m :=
  Calls.quiet_of h
theorem alloc_heap_new (w : World) (o : Obj) : (w.alloc o).heap[w.heap.size]? = some o := by
  show (w.heap.push o)[w.heap.size]? = _
  simp
theorem heap_alloc_at (w : World) (o : Obj) (k : Nat) : (w.alloc o).heap[k]? = if k = w.heap.size then some o else w.heap[k]? := by
  show (w.heap.push o)[k]? = _
  rw [Array.getElem?_push]
theorem heap_size_alloc (w : World) (o : Obj) : (w.alloc o).heap.size = w.heap.size + 1 := by
  show (w.heap.push o).size = _
  simp
theorem ret_int {k : IntKind} {a b : Int} (h : a = b) : Ending.returned (.int k a) = .returned (.int k b) := by rw [h]
theorem ret_bool {a b : Bool} (h : a = b) : Ending.returned (.bool a) = .returned (.bool b) := by rw [h]
end Go.Proofs.Ytkiofaojokofbaa
namespace Go.Proofs.Ytkiofaojokofbaa
open Go.RowKit

/-- Block b holds the lattice l. -/
structure LatAt (w : World) (b : Nat) (l : Lat) : Prop where
  wf : l.WF
  blk : w.heap[b]? = some (.cells l.cells 81 (0, 0))

theorem LatAt.n_cell {w : World} {b : Nat} {l : Lat} (h : LatAt w b l) : w.cell? ⟨b, 0, none⟩ = some (.int .i64 l.n) := by
  simp [World.cell?, h.blk, Lat.cells]
theorem LatAt.up_cell {w : World} {b : Nat} {l : Lat} (h : LatAt w b l) (i : Nat) (hi : i < 16) : w.cell? ⟨b, 1 + i, none⟩ = some (.int .u64 (l.up.getD i 0 : Nat)) := by
  have hl := h.wf.len
  simp [World.cell?, h.blk, Lat.cells, show 1 + i = i + 1 by omega, hl, hi]
theorem LatAt.free {w : World} {b : Nat} {l : Lat} (h : LatAt w b l) (i : Nat) : w.frozen? ⟨b, i, none⟩ = false := by
  simp [World.frozen?, h.blk]
theorem LatAt.keep {w w' : World} {b : Nat} {l : Lat} (h : LatAt w b l) (hb : w'.heap[b]? = w.heap[b]?) : LatAt w' b l := ⟨h.wf, hb.trans h.blk⟩
theorem LatAt.lt {w : World} {b : Nat} {l : Lat} (h : LatAt w b l) : b < w.heap.size := (Array.getElem?_eq_some_iff.1 h.blk).1
theorem LatAt.drew {w w' : World} {b : Nat} {l : Lat} (h : LatAt w b l) (hd : Drew w w') : LatAt w' b l := h.keep (by rw [hd.heap])
theorem LatAt.frm {w w' : World} {b : Nat} {l : Lat} (h : LatAt w b l) {F : List Nat} (hd : Frm F w w') (hb : b ∉ F) : LatAt w' b l := h.keep (hd.block _ h.lt hb)
theorem LatAt.frm0 {w w' : World} {b : Nat} {l : Lat} (h : LatAt w b l) (hd : Frm [] w w') : LatAt w' b l := h.frm hd (by simp)
theorem LatAt.below {w w' : World} {b : Nat} {l : Lat} (h : LatAt w b l) (hd : Below w.heap.size w w') : LatAt w' b l := h.keep (hd.block _ h.lt)

theorem lat_is (l : Lat) (b : Nat) (a : Int) (w : World) (hl : LatAt w b l) :
    Calls Try.prog 45 #[.pointer (some ⟨b,0,none⟩), .int .i64 a] w fun e w' => e = .returned (.bool (l.is a)) ∧ w = w' := by
  have c0 := hl.n_cell
  go_enter Try.func45, Try.ntmps45
  go_wp2
  · go_ret
    simp [Lat.is, *]
  · go_ret
    simp [Lat.is, *]
    omega

theorem lat_is_nil (a : Int) (w : World) :
    Calls Try.prog 45 #[.pointer none, .int .i64 a] w fun e w' => e = .returned (.bool false) ∧ w = w' := by
  go_enter Try.func45, Try.ntmps45
  go_wp2
  go_ret
  simp

theorem lat_leq (l : Lat) (b : Nat) (a c : Int) (w : World) (hl : LatAt w b l) :
    Calls Try.prog 44 #[.pointer (some ⟨b,0,none⟩), .int .i64 a, .int .i64 c] w fun e w' => e = .returned (.bool (l.leq a c)) ∧ w = w' := by
  have h16 := hl.wf.n16
  cases h1 : l.is a
  · go_enter Try.func44, Try.ntmps44
    go_wp2_with (go_at_call 45; refine (lat_is l b _ _ hl).mono ?_; rintro e w' ⟨rfl, rfl⟩)
    go_ret
    simp [Lat.leq, h1]
  · cases h2 : l.is c
    · go_enter Try.func44, Try.ntmps44
      go_wp2_with (go_at_call 45; refine (lat_is l b _ _ hl).mono ?_; rintro e w' ⟨rfl, rfl⟩)
      go_ret
      simp [Lat.leq, h1, h2]
    · have h1' : 0 ≤ a ∧ a < l.n := by simpa [Lat.is] using h1
      have h2' : 0 ≤ c ∧ c < l.n := by simpa [Lat.is] using h2
      obtain ⟨h3, h4⟩ := h1'
      obtain ⟨h5, h6⟩ := h2'
      have hx : a < 16 := by omega
      have hcell := hl.up_cell a.toNat (by omega)
      have hbit := bit_test (l.row a) c.toNat (Lat.row_lt hl.wf a)
      have hr : l.up.getD a.toNat 0 = l.row a := rfl
      rw [hr] at hcell
      clear hr
      have H : Hid (l.leq a c = (l.row a).testBit c.toNat) := by
        show _ = _
        simp [Lat.leq, h1, h2]
      generalize l.row a = r at *
      go_enter Try.func44, Try.ntmps44
      go_wp2_with (go_at_call 45; refine (lat_is l b _ _ hl).mono ?_; rintro e w' ⟨rfl, rfl⟩)
      go_ret
      rw [H.out]
      exact ⟨rfl, rfl⟩

theorem lat_join (l : Lat) (b : Nat) (a c : Int) (w : World) (hl : LatAt w b l) :
    Calls Try.prog 47 #[.pointer (some ⟨b,0,none⟩), .int .i64 a, .int .i64 c] w fun e w' => e = .returned (.int .i64 (l.join a c)) ∧ Drew w w' := by
  have h16 := hl.wf.n16
  cases h1 : l.is a
  · go_enter Try.func47, Try.ntmps47
    go_wp2_with (go_at_call 45; refine (lat_is l b _ _ hl).mono ?_; rintro e w' ⟨rfl, rfl⟩)
    go_ret
    simp [Lat.join, h1, Drew.refl]
  · cases h2 : l.is c
    · go_enter Try.func47, Try.ntmps47
      go_wp2_with (go_at_call 45; refine (lat_is l b _ _ hl).mono ?_; rintro e w' ⟨rfl, rfl⟩)
      go_ret
      simp [Lat.join, h1, h2, Drew.refl]
    · have h1' : 0 ≤ a ∧ a < l.n := by simpa [Lat.is] using h1
      have h2' : 0 ≤ c ∧ c < l.n := by simpa [Lat.is] using h2
      obtain ⟨h3, h4⟩ := h1'
      obtain ⟨h5, h6⟩ := h2'
      have hx : a < 16 := by omega
      have hy : c < 16 := by omega
      have hca : w.cell? ⟨b, 1 + a.toNat, none⟩ = some (.int .u64 (l.row a : Nat)) := hl.up_cell a.toNat (by omega)
      have hcc : w.cell? ⟨b, 1 + c.toNat, none⟩ = some (.int .u64 (l.row c : Nat)) := hl.up_cell c.toNat (by omega)
      have hcn := hl.n_cell
      have hand := u64_and_nat (l.row a) (l.row c) (Lat.row_lt hl.wf a) (Lat.row_lt hl.wf c)
      have hra := Lat.row_lt hl.wf a
      have H : Hid (l.join a c = l.joinFrom (l.row a &&& l.row c) l.n 0) := by
        show _ = _
        simp [Lat.join, h1, h2]
      have hboth : (l.row a &&& l.row c) < 18446744073709551616 := Nat.lt_of_le_of_lt Nat.and_le_left hra
      generalize l.row a = ra at *
      generalize l.row c = rc at *
      generalize ra &&& rc = both at *
      go_enter Try.func47, Try.ntmps47
      go_wp2_with (go_at_call 45; refine (lat_is l b _ _ hl).mono ?_; rintro e w' ⟨rfl, rfl⟩)
      go_quiet (fail)
      go_wp2
      clear hca hcc hand
      go_loop [8, 36] (fun _ i => ∃ k : Nat, k ≤ l.n ∧ i = .int .i64 k ∧ l.joinFrom both l.n 0 = l.joinFrom both (l.n - k) k) (fun _ i => l.n - (intOf i).toNat)
      case atStart => exact ⟨0, Nat.zero_le _, rfl, rfl⟩
      case round =>
        obtain ⟨k, hk, rfl, hj⟩ := hrel
        have HJ := hj
        replace hj : Hid (l.joinFrom both l.n 0 = l.joinFrom both (l.n - k) k) := hj
        clear HJ
        by_cases hlt : k < l.n
        · have hup := hl.up_cell k (by omega)
          have b1 := bit_test both k hboth
          have hrk := Lat.getD_lt hl.wf k
          have b2 := u64_and_nat (l.up.getD k 0) both hrk hboth
          have hstep : l.joinFrom both (l.n - k) k = if both.testBit k && (l.up.getD k 0 &&& both == both) then (k : Int) else l.joinFrom both (l.n - (k + 1)) (k + 1) := by
            rw [show l.n - k = (l.n - (k + 1)) + 1 by omega]
            rfl
          generalize l.up.getD k 0 = u at *
          have H2 := Lib.hid hstep
          clear hstep
          have hbe : ((u &&& both : Nat) : Int) = (both : Int) ↔ (u &&& both) = both := by omega
          go_wp2
          · rename_i t1 t2 _
            go_ret
            refine ⟨?_, ⟨nq, rfl⟩⟩
            rw [H.out, hj.out, H2.out, if_pos]
            · rfl
            · simp only [Bool.and_eq_true, beq_iff_eq] at t1 t2 ⊢
              exact ⟨t1, hbe.1 t2⟩
          · rename_i t1 t2
            go_round
            case rel =>
              refine ⟨k + 1, by omega, by go_num, ?_⟩
              rw [hj.out, H2.out, if_neg]
              simp only [Bool.and_eq_true, beq_iff_eq, beq_eq_false_iff_ne, ne_eq] at t1 t2 ⊢
              exact fun h => t2 (hbe.2 h.2)
            case measure => simp [intOf]; omega
          · rename_i t1
            go_round
            case rel =>
              refine ⟨k + 1, by omega, by go_num, ?_⟩
              rw [hj.out, H2.out, if_neg]
              simp only [Bool.and_eq_true]
              exact fun h => t1 h.1
            case measure => simp [intOf]; omega
        · have : k = l.n := by omega
          subst this
          go_wp2
          go_ret
          refine ⟨?_, ⟨nq, rfl⟩⟩
          rw [H.out, hj.out]
          simp [Lat.joinFrom]

theorem lat_len (l : Lat) (b : Nat) (w : World) (hl : LatAt w b l) :
    Calls Try.prog 43 #[.pointer (some ⟨b,0,none⟩)] w fun e w' => e = .returned (.int .i64 l.n) ∧ w = w' := by
  have c0 := hl.n_cell
  go_enter Try.func43, Try.ntmps43
  go_wp2
  go_ret
  exact ⟨rfl, rfl⟩

theorem Lat.bottomTo_succ (l : Lat) (k : Nat) : l.bottomTo (k + 1) = l.bottomStep (l.bottomTo k) k := by
  simp [Lat.bottomTo, List.range_succ]
theorem Lat.topTo_succ (l : Lat) (k : Nat) : l.topTo (k + 1) = l.topStep (l.topTo k) k := by
  simp [Lat.topTo, List.range_succ]

theorem lat_bottom (l : Lat) (b : Nat) (w : World) (hl : LatAt w b l) :
    Calls Try.prog 21 #[.pointer (some ⟨b,0,none⟩)] w fun e w' => e = .returned (.int .i64 l.bottom) ∧ w = w' := by
  have h16 := hl.wf.n16
  go_enter Try.func21, Try.ntmps21
  go_wp2_with (go_at_call 43; refine (lat_len l b _ hl).mono ?_; rintro e w' ⟨rfl, rfl⟩)
  go_loop [3, 4, 7] (fun best _ i => ∃ k : Nat, k ≤ l.n ∧ i = .int .i64 k ∧ best = .int .i64 (l.bottomTo k)) (fun _ _ i => l.n - (intOf i).toNat)
  case atStart => exact ⟨0, Nat.zero_le _, rfl, rfl⟩
  case round =>
    obtain ⟨k, hk, rfl, rfl⟩ := hrel
    by_cases hlt : k < l.n
    · have H := Lib.hid (Lat.bottomTo_succ l k)
      generalize l.bottomTo k = best at *
      cases hb : (best == -1)
      · cases hq : l.leq k best
        all_goals
          have HB : Hid (l.bottomStep best k = if (best == -1) || l.leq k best then (k : Int) else best) := rfl
          have HQ := Lib.hid hq
          clear hq
          go_wp2_with (go_at_call 44; refine (lat_leq l b _ _ _ hl).mono ?_; rintro e w' ⟨rfl, rfl⟩; rw [HQ.out])
          go_round
          case rel => exact ⟨k + 1, by omega, by go_num, by rw [H.out, HB.out, hb, HQ.out]; rfl⟩
          case measure => simp [intOf]; omega
      · have HB : Hid (l.bottomStep best k = if (best == -1) || l.leq k best then (k : Int) else best) := rfl
        go_wp2_with (go_at_call 44; refine (lat_leq l b _ _ _ hl).mono ?_; rintro e w' ⟨rfl, rfl⟩)
        go_round
        case rel => exact ⟨k + 1, by omega, by go_num, by rw [H.out, HB.out, hb]; rfl⟩
        case measure => simp [intOf]; omega
    · have : k = l.n := by omega
      subst this
      go_wp2
      go_ret
      exact ⟨rfl, rfl⟩

theorem lat_top (l : Lat) (b : Nat) (w : World) (hl : LatAt w b l) :
    Calls Try.prog 81 #[.pointer (some ⟨b,0,none⟩)] w fun e w' => e = .returned (.int .i64 l.top) ∧ w = w' := by
  have h16 := hl.wf.n16
  go_enter Try.func81, Try.ntmps81
  go_wp2_with (go_at_call 43; refine (lat_len l b _ hl).mono ?_; rintro e w' ⟨rfl, rfl⟩)
  go_loop [3, 4, 7] (fun best _ i => ∃ k : Nat, k ≤ l.n ∧ i = .int .i64 k ∧ best = .int .i64 (l.topTo k)) (fun _ _ i => l.n - (intOf i).toNat)
  case atStart => exact ⟨0, Nat.zero_le _, rfl, rfl⟩
  case round =>
    obtain ⟨k, hk, rfl, rfl⟩ := hrel
    by_cases hlt : k < l.n
    · have H := Lib.hid (Lat.topTo_succ l k)
      generalize l.topTo k = best at *
      cases hb : (best == -1)
      · cases hq : l.leq best k
        all_goals
          have HB : Hid (l.topStep best k = if (best == -1) || l.leq best k then (k : Int) else best) := rfl
          have HQ := Lib.hid hq
          clear hq
          go_wp2_with (go_at_call 44; refine (lat_leq l b _ _ _ hl).mono ?_; rintro e w' ⟨rfl, rfl⟩; rw [HQ.out])
          go_round
          case rel => exact ⟨k + 1, by omega, by go_num, by rw [H.out, HB.out, hb, HQ.out]; rfl⟩
          case measure => simp [intOf]; omega
      · have HB : Hid (l.topStep best k = if (best == -1) || l.leq best k then (k : Int) else best) := rfl
        go_wp2_with (go_at_call 44; refine (lat_leq l b _ _ _ hl).mono ?_; rintro e w' ⟨rfl, rfl⟩)
        go_round
        case rel => exact ⟨k + 1, by omega, by go_num, by rw [H.out, HB.out, hb]; rfl⟩
        case measure => simp [intOf]; omega
    · have : k = l.n := by omega
      subst this
      go_wp2
      go_ret
      exact ⟨rfl, rfl⟩

end Go.Proofs.Ytkiofaojokofbaa
namespace Go.Proofs.Ytkiofaojokofbaa
open Go.RowKit

inductive Term where
  | mk (kind n : Int) (s : ByteArray) (kids : List Term)
deriving Inhabited

namespace Term
def kind : Term → Int | mk k _ _ _ => k
def n : Term → Int | mk _ n _ _ => n
def s : Term → ByteArray | mk _ _ s _ => s
def kids : Term → List Term | mk _ _ _ ts => ts

theorem eta (t : Term) : t = .mk t.kind t.n t.s t.kids := by cases t; rfl

/-- An induction over a term and all its parts. -/
theorem induct {P : Term → Prop} (h : ∀ k n s ts, (∀ t, t ∈ ts → P t) → P (.mk k n s ts)) : ∀ t, P t := by
  intro t
  exact Term.rec (motive_1 := P) (motive_2 := fun ts => ∀ t, t ∈ ts → P t) (fun k n s ts ih => h k n s ts ih) (fun _ hm => by simp at hm)
    (fun t ts h1 h2 x hx => by
      rcases List.mem_cons.1 hx with rfl | hx
      · exact h1
      · exact h2 x hx) t

mutual
def size : Term → Nat
  | mk _ _ _ ts => 1 + sizes ts
def sizes : List Term → Nat
  | [] => 0
  | t :: ts => size t + sizes ts
end
mutual
def deep : Term → Nat
  | mk _ _ _ ts => 1 + deeps ts
def deeps : List Term → Nat
  | [] => 0
  | t :: ts => max (deep t) (deeps ts)
end
mutual
/-- A part before its kids, and the kids in order. -/
def parts : Term → List Term
  | mk k n s ts => mk k n s ts :: partss ts
def partss : List Term → List Term
  | [] => []
  | t :: ts => parts t ++ partss ts
end
mutual
def beq : Term → Term → Bool
  | mk k n s ts, mk k' n' s' ts' => k == k' && n == n' && s == s' && beqs ts ts'
def beqs : List Term → List Term → Bool
  | [], [] => true
  | t :: ts, t' :: ts' => beq t t' && beqs ts ts'
  | _, _ => false
end
def sealOf (t : Term) : Bool := t.kind == 4 && t.kids.length == 1
mutual
def erase : Term → Term
  | mk k n s ts => match k == 4, erases ts with
    | true, [t] => t
    | _, l => mk k n s l
def erases : List Term → List Term
  | [] => []
  | t :: ts => erase t :: erases ts
end
def put (n : Int) (t : Term) : Term := mk 4 n ByteArray.empty [t]
def num (n : Int) : Term := mk 2 n ByteArray.empty []
def var (n : Int) : Term := mk 1 n ByteArray.empty []
def fn (s : ByteArray) (ts : List Term) : Term := mk 3 0 s ts
/-- The variables, in the order of their first places. -/
def addVar (l : List Int) (p : Term) : List Int := if p.kind == 1 && !l.contains p.n then l ++ [p.n] else l
def vars (t : Term) : List Int := t.parts.foldl addVar []
def alone (levels : Int) (t : Term) : Bool :=
  if t.kind == 1 then decide (0 ≤ t.n) && decide (t.n < 4096) && (t.s == ByteArray.empty) && (t.kids.length == 0)
  else if t.kind == 2 then (t.s == ByteArray.empty) && (t.kids.length == 0)
  else if t.kind == 3 then (t.n == 0) && decide (t.s.size ≤ 64) && decide (t.kids.length ≤ 8)
  else if t.kind == 4 then (t.s == ByteArray.empty) && decide (0 ≤ t.n) && decide (t.n < levels) && (match t.kids with | [k] => k.vars.length == 0 | _ => false)
  else false
def check (levels : Int) (t : Term) : Int :=
  if 1000 < t.size then 3 else if 60 < t.deep then 7 else if t.parts.all (alone levels) then 0 else 4

theorem erases_map (ts : List Term) : erases ts = ts.map erase := by
  induction ts with
  | nil => rfl
  | cons t ts ih => simp [erases, ih]
theorem erase_seal (n : Int) (s : ByteArray) (t : Term) : erase (mk 4 n s [t]) = erase t := rfl
theorem erase_else {k n : Int} {s : ByteArray} {ts : List Term} (h : ¬ (k = 4 ∧ ts.length = 1)) : erase (mk k n s ts) = mk k n s (ts.map erase) := by
  simp only [erase, erases_map]
  by_cases hk : k = 4
  · have hl : ts.length ≠ 1 := fun h1 => h ⟨hk, h1⟩
    match ts, hl with
    | [], _ => simp
    | [x], hl => simp at hl
    | x :: y :: r, _ => simp
  · have : (k == 4) = false := by simpa using hk
    simp [this]
theorem sizes_eq (ts : List Term) : sizes ts = (ts.map size).sum := by
  induction ts with
  | nil => rfl
  | cons t ts ih => simp [sizes, ih]
theorem partss_eq (ts : List Term) : partss ts = ts.flatMap parts := by
  induction ts with
  | nil => rfl
  | cons t ts ih => simp [partss, ih]
theorem size_pos (t : Term) : 1 ≤ t.size := by cases t; simp [size]
theorem length_sizes (ts : List Term) : ts.length ≤ sizes ts := by
  induction ts with
  | nil => simp
  | cons t ts ih => have := size_pos t; simp [sizes]; omega
theorem sizes_append (xs ys : List Term) : sizes (xs ++ ys) = sizes xs + sizes ys := by simp [sizes_eq]
theorem size_mem {t : Term} {ts : List Term} (h : t ∈ ts) : t.size ≤ sizes ts := by
  induction ts with
  | nil => simp at h
  | cons x xs ih =>
    rcases List.mem_cons.1 h with rfl | h
    · simp [sizes]
    · have := ih h; simp [sizes]; omega
theorem length_partss_and : (∀ t : Term, t.parts.length = t.size) := by
  intro t
  induction t using induct with
  | h k n s ts ih =>
    simp only [parts, size, List.length_cons, partss_eq, sizes_eq, List.length_flatMap]
    have : ts.map (fun t => t.parts.length) = ts.map size := List.map_congr_left ih
    rw [this]; omega
theorem sealOf_true {k n : Int} {s : ByteArray} {ts : List Term} (h : sealOf (mk k n s ts) = true) : k = 4 ∧ ∃ x, ts = [x] := by
  simp only [sealOf, kind, kids, Bool.and_eq_true, beq_iff_eq] at h
  exact ⟨h.1, List.length_eq_one_iff.1 h.2⟩
theorem size_kid (k n : Int) (s : ByteArray) (x : Term) : x.size < (mk k n s [x]).size := by simp [size, sizes]
end Term

namespace Lat
def level (l : Lat) (n : Int) : Int := if n < 0 ∨ l.n ≤ n then l.top else n
mutual
def joinT (l : Lat) : Term → Int
  | .mk k n _ ts => joinTs l (if k == 4 then l.level n else l.bottom) ts
def joinTs (l : Lat) (a : Int) : List Term → Int
  | [] => a
  | t :: ts => joinTs l (l.join a (joinT l t)) ts
end
/-- The seals at the head of a term: what they stand round, and the join of their levels. -/
def peel (l : Lat) (a : Int) : Term → Term × Int
  | .mk k n s ts => match k == 4, ts with
    | true, [t] => peel l (l.join a (l.level n)) t
    | _, ts => (.mk k n s ts, a)
def opened (l : Lat) (t : Term) : Term × Int :=
  if t.sealOf then
    let p := l.peel l.bottom t
    (.mk p.1.kind p.1.n p.1.s (p.1.kids.map (Term.put p.2)), p.2)
  else (t, l.bottom)
theorem peel_seal (l : Lat) (a n : Int) (s : ByteArray) (t : Term) : l.peel a (.mk 4 n s [t]) = l.peel (l.join a (l.level n)) t := rfl
theorem peel_else (l : Lat) (a : Int) (t : Term) (h : t.sealOf = false) : l.peel a t = (t, a) := by
  obtain ⟨k, n, s, ts⟩ := t
  unfold peel
  cases hk : (k == 4)
  · rfl
  · match ts, h with
    | [], _ => rfl
    | [x], h => simp [Term.sealOf, Term.kind, Term.kids] at h hk; exact (h hk).elim
    | x :: y :: r, _ => rfl
end Lat
end Go.Proofs.Ytkiofaojokofbaa
namespace Go.Proofs.Ytkiofaojokofbaa
open Go.RowKit

def I64 (n : Int) : Prop := -9223372036854775808 ≤ n ∧ n ≤ 9223372036854775807

mutual
def TermV (F : List Nat) (w : World) : Term → Value → Prop
  | .mk k n s ts, v => ∃ A cap, v = .agg #[.int .i64 k, .int .i64 n, .string s, .slice A ts.length cap] ∧ I64 k ∧ I64 n ∧ s.size ≤ 1048576 ∧ ts.length ≤ 1048576 ∧
      ts.length ≤ cap ∧ cap ≤ 9223372036854775807 ∧ KidsV F w ts A 0
def KidsV (F : List Nat) (w : World) : List Term → Option Addr → Nat → Prop
  | [], _, _ => True
  | t :: ts, A, i => (∃ b off c0 c1 c2 c3, A = some ⟨b, off, none⟩ ∧ b ∉ F ∧ w.cell? ⟨b, off + i * 4, none⟩ = some c0 ∧ w.cell? ⟨b, off + i * 4 + 1, none⟩ = some c1 ∧
      w.cell? ⟨b, off + i * 4 + 2, none⟩ = some c2 ∧ w.cell? ⟨b, off + i * 4 + 3, none⟩ = some c3 ∧ TermV F w t (.agg #[c0, c1, c2, c3])) ∧ KidsV F w ts A (i + 1)
end

/-- Cells that hold a term. -/
def Term4 (F : List Nat) (w : World) (t : Term) (c0 c1 c2 c3 : Value) : Prop := TermV F w t (.agg #[c0, c1, c2, c3])

/-- What a term hangs on: the cells of blocks that are not in F. -/
theorem TermV.same (F F' : List Nat) (w w' : World) (hF : ∀ b, b ∉ F → b < w.heap.size → b ∉ F') (hw : ∀ b, b ∉ F → b < w.heap.size → w'.heap[b]? = w.heap[b]?) :
    ∀ t v, TermV F w t v → TermV F' w' t v := by
  intro t
  induction t using Term.induct with
  | h k n s ts ih =>
    intro v h
    simp only [TermV] at h ⊢
    obtain ⟨A, cap, rfl, h1, h2, h3, h4, h5, h6, h7⟩ := h
    refine ⟨A, cap, rfl, h1, h2, h3, h4, h5, h6, ?_⟩
    clear h1 h2 h3 h4 h5 h6
    generalize 0 = i at *
    induction ts generalizing i with
    | nil => simp [KidsV]
    | cons t ts ih2 =>
      simp only [KidsV] at h7 ⊢
      obtain ⟨⟨b, off, c0, c1, c2, c3, hA, hb, e0, e1, e2, e3, ht⟩, hr⟩ := h7
      have hlt := World.block_lt_of_cell? w _ e0
      have keep : ∀ o, w'.cell? ⟨b, o, none⟩ = w.cell? ⟨b, o, none⟩ := fun o => World.cell?_of_block (w := w) (a := ⟨b, o, none⟩) (hw b hb hlt)
      exact ⟨⟨b, off, c0, c1, c2, c3, hA, hF b hb hlt, by rw [keep]; exact e0, by rw [keep]; exact e1, by rw [keep]; exact e2, by rw [keep]; exact e3, ih t (by simp) _ ht⟩,
        ih2 (fun x hx => ih x (by simp [hx])) (i + 1) hr⟩

theorem KidsV.same (F F' : List Nat) (w w' : World) (hF : ∀ b, b ∉ F → b < w.heap.size → b ∉ F') (hw : ∀ b, b ∉ F → b < w.heap.size → w'.heap[b]? = w.heap[b]?) :
    ∀ ts A i, KidsV F w ts A i → KidsV F' w' ts A i := by
  intro ts
  induction ts with
  | nil => intros; simp [KidsV]
  | cons t ts ih =>
    intro A i h
    simp only [KidsV] at h ⊢
    obtain ⟨⟨b, off, c0, c1, c2, c3, hA, hb, e0, e1, e2, e3, ht⟩, hr⟩ := h
    have hlt := World.block_lt_of_cell? w _ e0
    have keep : ∀ o, w'.cell? ⟨b, o, none⟩ = w.cell? ⟨b, o, none⟩ := fun o => World.cell?_of_block (w := w) (a := ⟨b, o, none⟩) (hw b hb hlt)
    exact ⟨⟨b, off, c0, c1, c2, c3, hA, hF b hb hlt, by rw [keep]; exact e0, by rw [keep]; exact e1, by rw [keep]; exact e2, by rw [keep]; exact e3, TermV.same F F' w w' hF hw _ _ ht⟩, ih A (i + 1) hr⟩

/-- A call that let only F's blocks go: the term stands, away from F and from whatever is new. -/
theorem TermV.frm {F G : List Nat} {w w' : World} {t : Term} {v : Value} (h : TermV F w t v) (f : Frm G w w') (hG : ∀ b, b ∈ G → b ∈ F) : TermV F w' t v :=
  TermV.same F F w w' (fun _ hb _ => hb) (fun b hb hlt => f.block b hlt (fun hx => hb (hG b hx))) t v h
theorem KidsV.frm {F G : List Nat} {w w' : World} {ts : List Term} {A : Option Addr} {i : Nat} (h : KidsV F w ts A i) (f : Frm G w w') (hG : ∀ b, b ∈ G → b ∈ F) : KidsV F w' ts A i :=
  KidsV.same F F w w' (fun _ hb _ => hb) (fun b hb hlt => f.block b hlt (fun hx => hb (hG b hx))) ts A i h
/-- Away from more blocks that are new. -/
theorem TermV.away {F F' : List Nat} {w : World} {t : Term} {v : Value} (h : TermV F w t v) (hF : ∀ b, b ∈ F' → b ∈ F ∨ w.heap.size ≤ b) : TermV F' w t v :=
  TermV.same F F' w w (fun b hb hlt hx => (hF b hx).elim hb (fun hs => by omega)) (fun _ _ _ => rfl) t v h
theorem KidsV.away {F F' : List Nat} {w : World} {ts : List Term} {A : Option Addr} {i : Nat} (h : KidsV F w ts A i) (hF : ∀ b, b ∈ F' → b ∈ F ∨ w.heap.size ≤ b) : KidsV F' w ts A i :=
  KidsV.same F F' w w (fun b hb hlt hx => (hF b hx).elim hb (fun hs => by omega)) (fun _ _ _ => rfl) ts A i h
theorem TermV.keep {F : List Nat} {w w' : World} {t : Term} {v : Value} (h : TermV F w t v) (f : Frm [] w w') : TermV F w' t v := h.frm f (by simp)
theorem KidsV.keep {F : List Nat} {w w' : World} {ts : List Term} {A : Option Addr} {i : Nat} (h : KidsV F w ts A i) (f : Frm [] w w') : KidsV F w' ts A i := h.frm f (by simp)

theorem KidsV.get {F : List Nat} {w : World} : ∀ {ts : List Term} {A : Option Addr} {i : Nat}, KidsV F w ts A i → ∀ j t, ts[j]? = some t →
    ∃ b off c0 c1 c2 c3, A = some ⟨b, off, none⟩ ∧ b ∉ F ∧ w.cell? ⟨b, off + (i + j) * 4, none⟩ = some c0 ∧ w.cell? ⟨b, off + (i + j) * 4 + 1, none⟩ = some c1 ∧
      w.cell? ⟨b, off + (i + j) * 4 + 2, none⟩ = some c2 ∧ w.cell? ⟨b, off + (i + j) * 4 + 3, none⟩ = some c3 ∧ TermV F w t (.agg #[c0, c1, c2, c3])
  | [], _, _, _, j, t, hj => by simp at hj
  | x :: xs, A, i, h, 0, t, hj => by
    simp only [KidsV] at h
    simp only [List.getElem?_cons_zero, Option.some.injEq] at hj
    subst hj
    exact h.1
  | x :: xs, A, i, h, j + 1, t, hj => by
    simp only [KidsV] at h
    have := KidsV.get h.2 j t (by simpa using hj)
    rw [show i + 1 + j = i + (j + 1) by omega] at this
    exact this

theorem KidsV.of_get {F : List Nat} {w : World} (A : Option Addr) : ∀ (ts : List Term) (i : Nat), (∀ j t, ts[j]? = some t →
    ∃ b off c0 c1 c2 c3, A = some ⟨b, off, none⟩ ∧ b ∉ F ∧ w.cell? ⟨b, off + (i + j) * 4, none⟩ = some c0 ∧ w.cell? ⟨b, off + (i + j) * 4 + 1, none⟩ = some c1 ∧
      w.cell? ⟨b, off + (i + j) * 4 + 2, none⟩ = some c2 ∧ w.cell? ⟨b, off + (i + j) * 4 + 3, none⟩ = some c3 ∧ TermV F w t (.agg #[c0, c1, c2, c3])) → KidsV F w ts A i
  | [], _, _ => by simp [KidsV]
  | x :: xs, i, h => by
    simp only [KidsV]
    refine ⟨h 0 x rfl, KidsV.of_get A xs (i + 1) (fun j t hj => ?_)⟩
    have := h (j + 1) t (by simpa using hj)
    rw [show i + (j + 1) = i + 1 + j by omega] at this
    exact this

/-- The kid at place j, with its four cells opened. -/
theorem KidsV.kid {F : List Nat} {w : World} {ts : List Term} {A : Option Addr} (h : KidsV F w ts A 0) (j : Nat) (hj : j < ts.length) :
    ∃ b off A' cap, A = some ⟨b, off, none⟩ ∧ b ∉ F ∧ b < w.heap.size ∧ w.cell? ⟨b, off + j * 4, none⟩ = some (.int .i64 ts[j].kind) ∧ w.cell? ⟨b, off + j * 4 + 1, none⟩ = some (.int .i64 ts[j].n) ∧
      w.cell? ⟨b, off + j * 4 + 2, none⟩ = some (.string ts[j].s) ∧ w.cell? ⟨b, off + j * 4 + 3, none⟩ = some (.slice A' ts[j].kids.length cap) ∧
      TermV F w ts[j] (.agg #[.int .i64 ts[j].kind, .int .i64 ts[j].n, .string ts[j].s, .slice A' ts[j].kids.length cap]) := by
  obtain ⟨b, off, c0, c1, c2, c3, hA, hb, e0, e1, e2, e3, ht⟩ := h.get j ts[j] (List.getElem?_eq_getElem hj)
  generalize ts[j] = t at *
  obtain ⟨k, n, s, us⟩ := t
  have ht' := ht
  simp only [TermV] at ht
  obtain ⟨A', cap, hv, _⟩ := ht
  simp only [Value.agg.injEq, Array.mk.injEq, List.cons.injEq, and_true] at hv
  obtain ⟨rfl, rfl, rfl, rfl⟩ := hv
  simp only [Nat.zero_add] at e0 e1 e2 e3
  exact ⟨b, off, A', cap, hA, hb, World.block_lt_of_cell? w _ e0, e0, e1, e2, e3, ht'⟩

theorem TermV.mk' {F : List Nat} {w : World} {k n : Int} {s : ByteArray} {ts : List Term} {A : Option Addr} {cap : Nat} (h1 : I64 k) (h2 : I64 n) (h3 : s.size ≤ 1048576) (h4 : ts.length ≤ 1048576)
    (h5 : ts.length ≤ cap) (h6 : cap ≤ 9223372036854775807) (h7 : KidsV F w ts A 0) : TermV F w (.mk k n s ts) (.agg #[.int .i64 k, .int .i64 n, .string s, .slice A ts.length cap]) := by
  simp only [TermV]; exact ⟨A, cap, rfl, h1, h2, h3, h4, h5, h6, h7⟩
theorem TermV.leaf (F : List Nat) (w : World) {k n : Int} {s : ByteArray} (h1 : I64 k) (h2 : I64 n) (h3 : s.size ≤ 1048576) : TermV F w (.mk k n s []) (.agg #[.int .i64 k, .int .i64 n, .string s, .slice none 0 0]) :=
  TermV.mk' (ts := []) h1 h2 h3 (by simp) (by simp) (by simp) (by simp [KidsV])
theorem KidsV.lt {F : List Nat} {w : World} {ts : List Term} {A : Option Addr} (h : KidsV F w ts A 0) {a : Addr} (hA : A = some a) (hn : ts ≠ []) : a.block < w.heap.size ∧ a.block ∉ F := by
  obtain ⟨t, ts, rfl⟩ := List.exists_cons_of_ne_nil hn
  obtain ⟨b, off, c0, c1, c2, c3, hA', hb, e0, _⟩ := h.get 0 t rfl
  subst hA
  cases hA'
  exact ⟨World.block_lt_of_cell? w _ e0, hb⟩
end Go.Proofs.Ytkiofaojokofbaa
namespace Go.Proofs.Ytkiofaojokofbaa
open Go.RowKit

theorem seal_is (F : List Nat) (t : Term) (v : Value) (w : World) (h : TermV F w t v) :
    Calls Try.prog 68 #[v] w fun e w' => e = .returned (.bool t.sealOf) ∧ Frm [] w w' := by
  obtain ⟨k, n, s, ts⟩ := t
  simp only [TermV] at h
  obtain ⟨A, cap, rfl, _, _, _, hl, hc, _, _⟩ := h
  cases h1 : (k == 4)
  · go_enter Try.func68, Try.ntmps68
    go_wp2
    go_ret
    exact ⟨by simp [Term.sealOf, Term.kind, h1], (Frm.refl _ _).alloc _⟩
  · cases h2 : ((ts.length : Int) == 1)
    · go_enter Try.func68, Try.ntmps68
      go_wp2
      go_ret
      refine ⟨?_, (Frm.refl _ _).alloc _⟩
      have : (ts.length == 1) = false := by rw [beq_eq_false_iff_ne] at h2 ⊢; omega
      simp [Term.sealOf, Term.kind, Term.kids, h1, this]
    · go_enter Try.func68, Try.ntmps68
      go_wp2
      go_ret
      refine ⟨?_, (Frm.refl _ _).alloc _⟩
      have : (ts.length == 1) = true := by rw [beq_iff_eq] at h2 ⊢; omega
      simp [Term.sealOf, Term.kind, Term.kids, h1, this]

theorem seal_level (F : List Nat) (l : Lat) (b : Nat) (t : Term) (v : Value) (w : World) (hl : LatAt w b l) (h : TermV F w t v) :
    Calls Try.prog 69 #[.pointer (some ⟨b, 0, none⟩), v] w fun e w' => e = .returned (.int .i64 (l.level t.n)) ∧ Frm [] w w' := by
  obtain ⟨k, n, s, ts⟩ := t
  simp only [TermV] at h
  obtain ⟨A, cap, rfl, _, hn, _, _, _, _, _⟩ := h
  unfold I64 at hn
  obtain ⟨hn1, hn2⟩ := hn
  by_cases h1 : n < 0
  · go_enter Try.func69, Try.ntmps69
    go_wp2
    go_quiet (fail)
    go_wp2_with ((go_at_call 81; refine (lat_top l b _ (hl.frm0 (by repeat (first | with_reducible (first | refine .alloc ?_ _ | refine .drewN ?_ _ | refine .drew ?_) | ((with_reducible refine .setCell ?_ ?_ _); rotate_left; focus (first | (left; simp; done) | (right; simp; (first | done | omega)))) | with_reducible (first | assumption | exact .refl _ _ | refine .trans0 ?_ ‹_›))))).mono ?_; rintro e w' ⟨rfl, rfl⟩))
    go_ret
    exact ⟨by simp [Lat.level, Term.n, h1], (by repeat (first | with_reducible (first | refine .alloc ?_ _ | refine .drewN ?_ _ | refine .drew ?_) | ((with_reducible refine .setCell ?_ ?_ _); rotate_left; focus (first | (left; simp; done) | (right; simp; (first | done | omega)))) | with_reducible (first | assumption | exact .refl _ _ | refine .trans0 ?_ ‹_›)))⟩
  · have h1' : decide (n < 0) = false := by simpa using h1
    by_cases h2 : (l.n : Int) ≤ n
    · go_enter Try.func69, Try.ntmps69
      go_wp2
      go_quiet ((go_at_call 43; exact quiet_eq (lat_len l b _ (hl.frm0 (by repeat (first | with_reducible (first | refine .alloc ?_ _ | refine .drewN ?_ _ | refine .drew ?_) | ((with_reducible refine .setCell ?_ ?_ _); rotate_left; focus (first | (left; simp; done) | (right; simp; (first | done | omega)))) | with_reducible (first | assumption | exact .refl _ _ | refine .trans0 ?_ ‹_›)))))))
      go_wp2_with ((go_at_call 81; refine (lat_top l b _ (hl.frm0 (by repeat (first | with_reducible (first | refine .alloc ?_ _ | refine .drewN ?_ _ | refine .drew ?_) | ((with_reducible refine .setCell ?_ ?_ _); rotate_left; focus (first | (left; simp; done) | (right; simp; (first | done | omega)))) | with_reducible (first | assumption | exact .refl _ _ | refine .trans0 ?_ ‹_›))))).mono ?_; rintro e w' ⟨rfl, rfl⟩))
      go_ret
      exact ⟨by simp [Lat.level, Term.n, h2], (by repeat (first | with_reducible (first | refine .alloc ?_ _ | refine .drewN ?_ _ | refine .drew ?_) | ((with_reducible refine .setCell ?_ ?_ _); rotate_left; focus (first | (left; simp; done) | (right; simp; (first | done | omega)))) | with_reducible (first | assumption | exact .refl _ _ | refine .trans0 ?_ ‹_›)))⟩
    · have h2' : n < (l.n : Int) := by omega
      go_enter Try.func69, Try.ntmps69
      go_wp2
      go_quiet ((go_at_call 43; exact quiet_eq (lat_len l b _ (hl.frm0 (by repeat (first | with_reducible (first | refine .alloc ?_ _ | refine .drewN ?_ _ | refine .drew ?_) | ((with_reducible refine .setCell ?_ ?_ _); rotate_left; focus (first | (left; simp; done) | (right; simp; (first | done | omega)))) | with_reducible (first | assumption | exact .refl _ _ | refine .trans0 ?_ ‹_›)))))))
      go_wp2
      go_ret
      exact ⟨ret_int (if_neg (show ¬ (n < 0 ∨ (l.n : Int) ≤ n) by omega)).symm, (by repeat (first | with_reducible (first | refine .alloc ?_ _ | refine .drewN ?_ _ | refine .drew ?_) | ((with_reducible refine .setCell ?_ ?_ _); rotate_left; focus (first | (left; simp; done) | (right; simp; (first | done | omega)))) | with_reducible (first | assumption | exact .refl _ _ | refine .trans0 ?_ ‹_›)))⟩

theorem KidsV.one {F : List Nat} {w : World} {b : Nat} {c0 c1 c2 c3 : Value} {ty : TypeId} {fz : Nat × Nat} {t : Term} (hb : w.heap[b]? = some (.cells #[c0, c1, c2, c3] ty fz)) (hF : b ∉ F)
    (ht : TermV F w t (.agg #[c0, c1, c2, c3])) : KidsV F w [t] (some ⟨b, 0, none⟩) 0 := by
  simp only [KidsV]
  exact ⟨⟨b, 0, c0, c1, c2, c3, rfl, hF, by simp [World.cell?, hb], by simp [World.cell?, hb], by simp [World.cell?, hb], by simp [World.cell?, hb], ht⟩, trivial⟩

theorem seal_put (F : List Nat) (t : Term) (v : Value) (n : Int) (w : World) (h : TermV F w t v) (hn : I64 n) (hF : ∀ b, b ∈ F → b < w.heap.size) :
    Calls Try.prog 15 #[v, .int .i64 n] w fun e w' => (∃ v', e = .returned v' ∧ TermV F w' (t.put n) v') ∧ Frm [] w w' := by
  have hv := h
  obtain ⟨k, m, s, ts⟩ := t
  simp only [TermV] at h
  obtain ⟨A, cap, rfl, _⟩ := h
  go_enter Try.func15, Try.ntmps15
  go_wp2
  refine bodyPost_ret (v := .agg #[.int .i64 4, .int .i64 n, .string ⟨#[]⟩, .slice (some ⟨w.heap.size + 1 + 1, 0, none⟩) 1 1]) (by simp [results, Try.results15, go_sem]) rfl ⟨⟨_, rfl, ?_⟩, (by repeat (first | with_reducible (first | refine .alloc ?_ _ | refine .drewN ?_ _ | refine .drew ?_) | ((with_reducible refine .setCell ?_ ?_ _); rotate_left; focus (first | (left; simp; done) | (right; simp; (first | done | omega)))) | with_reducible (first | assumption | exact .refl _ _ | refine .trans0 ?_ ‹_›)))⟩
  have hFz : w.heap.size + 1 + 1 ∉ F := fun hx => by have := hF _ hx; omega
  exact TermV.mk' (ts := [.mk k m s ts]) (by unfold I64; omega) hn (by simp) (by simp) (by simp) (by simp) (KidsV.one (by repeat (first | rw [heap_alloc_at] | rw [heap_size_alloc] | rfl | rw [if_pos (by omega)] | rw [if_neg (by omega)])) hFz (hv.keep (by repeat (first | with_reducible (first | refine .alloc ?_ _ | refine .drewN ?_ _ | refine .drew ?_) | ((with_reducible refine .setCell ?_ ?_ _); rotate_left; focus (first | (left; simp; done) | (right; simp; (first | done | omega)))) | with_reducible (first | assumption | exact .refl _ _ | refine .trans0 ?_ ‹_›)))))
theorem Lat.joinTs_snoc (l : Lat) (a : Int) (ts : List Term) (t : Term) : l.joinTs a (ts ++ [t]) = l.join (l.joinTs a ts) (l.joinT t) := by
  induction ts generalizing a with
  | nil => rfl
  | cons x xs ih => simp [Lat.joinTs, ih]
theorem take_succ_get {α : Type} {ts : List α} {j : Nat} (h : j < ts.length) : ts.take (j + 1) = ts.take j ++ [ts[j]] := by
  rw [List.take_succ_eq_append_getElem h]

theorem seal_join (l : Lat) (b : Nat) : ∀ (t : Term) (F : List Nat) (v : Value) (w : World), LatAt w b l → TermV F w t v →
    Calls Try.prog 65 #[.pointer (some ⟨b, 0, none⟩), v] w fun e w' => e = .returned (.int .i64 (l.joinT t)) ∧ Frm [] w w' := by
  intro t
  induction t using Term.induct with
  | h k n s ts ih =>
    intro F v w hl h
    have hv := h
    have IH := Lib.hid ih
    clear ih
    simp only [TermV] at h
    obtain ⟨A, cap, rfl, _, _, _, hl1, hc, hc2, hk⟩ := h
    have H0 : Hid (l.joinT (.mk k n s ts) = l.joinTs (if k == 4 then l.level n else l.bottom) ts) := rfl
    cases h1 : (k == 4)
    all_goals
      go_enter Try.func65, Try.ntmps65
      go_wp2_with (first | (go_at_call 21; refine (lat_bottom l b _ (hl.frm0 (by repeat (first | with_reducible (first | refine .alloc ?_ _ | refine .drewN ?_ _ | refine .drew ?_) | ((with_reducible refine .setCell ?_ ?_ _); rotate_left; focus (first | (left; simp; done) | (right; simp; (first | done | omega)))) | with_reducible (first | assumption | exact .refl _ _ | refine .trans0 ?_ ‹_›))))).mono ?_; rintro e w' ⟨rfl, rfl⟩) | (go_at_call 69; refine (seal_level F l b _ _ _ (hl.frm0 (by repeat (first | with_reducible (first | refine .alloc ?_ _ | refine .drewN ?_ _ | refine .drew ?_) | ((with_reducible refine .setCell ?_ ?_ _); rotate_left; focus (first | (left; simp; done) | (right; simp; (first | done | omega)))) | with_reducible (first | assumption | exact .refl _ _ | refine .trans0 ?_ ‹_›)))) (hv.keep (by repeat (first | with_reducible (first | refine .alloc ?_ _ | refine .drewN ?_ _ | refine .drew ?_) | ((with_reducible refine .setCell ?_ ?_ _); rotate_left; focus (first | (left; simp; done) | (right; simp; (first | done | omega)))) | with_reducible (first | assumption | exact .refl _ _ | refine .trans0 ?_ ‹_›))))).mono ?_; rintro e w1 ⟨rfl, Fw1⟩; obtain ⟨hcw1, hfw1⟩ := Fw1.reads))
      go_loopw [5, 19] (fun a i wr => ∃ j : Nat, j ≤ ts.length ∧ i = .int .i64 j ∧ Frm [] w wr ∧ a = .int .i64 (l.joinTs (if k == 4 then l.level n else l.bottom) (ts.take j))) (fun _ i _ => ts.length - (intOf i).toNat)
      case atStart => exact ⟨0, Nat.zero_le _, rfl, (by repeat (first | with_reducible (first | refine .alloc ?_ _ | refine .drewN ?_ _ | refine .drew ?_) | ((with_reducible refine .setCell ?_ ?_ _); rotate_left; focus (first | (left; simp; done) | (right; simp; (first | done | omega)))) | with_reducible (first | assumption | exact .refl _ _ | refine .trans0 ?_ ‹_›))), by rw [h1]; rfl⟩
      case round =>
        obtain ⟨j, hj, rfl, hF, rfl⟩ := hrel
        by_cases hlt : j < ts.length
        · obtain ⟨b', off, A', cap', rfl, hb1, hb2, e0, e1, e2, e3, hkid⟩ := (hk.keep hF).kid j hlt
          have HT := Lib.hid (take_succ_get hlt)
          have HM : Hid (ts[j] ∈ ts) := List.getElem_mem hlt
          have HS := Lib.hid (Lat.joinTs_snoc l (if k == 4 then l.level n else l.bottom) (ts.take j) ts[j])
          generalize ts[j] = t at *
          generalize l.joinTs (if k == 4 then l.level n else l.bottom) (ts.take j) = acc at *
          go_wp2_with (first | (go_at_call 65; refine (IH.out t HM.out F _ _ (hl.frm0 (by repeat (first | with_reducible (first | refine .alloc ?_ _ | refine .drewN ?_ _ | refine .drew ?_) | ((with_reducible refine .setCell ?_ ?_ _); rotate_left; focus (first | (left; simp; done) | (right; simp; (first | done | omega)))) | with_reducible (first | assumption | exact .refl _ _ | refine .trans0 ?_ ‹_›)))) (hkid.keep (by repeat (first | with_reducible (first | refine .alloc ?_ _ | refine .drewN ?_ _ | refine .drew ?_) | ((with_reducible refine .setCell ?_ ?_ _); rotate_left; focus (first | (left; simp; done) | (right; simp; (first | done | omega)))) | with_reducible (first | assumption | exact .refl _ _ | refine .trans0 ?_ ‹_›))))).mono ?_; rintro e w2 ⟨rfl, Fw2⟩; obtain ⟨hcw2, hfw2⟩ := Fw2.reads) | (go_at_call 47; refine (lat_join l b _ _ _ (hl.frm0 (by repeat (first | with_reducible (first | refine .alloc ?_ _ | refine .drewN ?_ _ | refine .drew ?_) | ((with_reducible refine .setCell ?_ ?_ _); rotate_left; focus (first | (left; simp; done) | (right; simp; (first | done | omega)))) | with_reducible (first | assumption | exact .refl _ _ | refine .trans0 ?_ ‹_›))))).mono ?_; rintro e w3 ⟨rfl, ⟨d3, rfl⟩⟩))
          go_roundw
          case rel =>
            exact ⟨j + 1, by omega, by go_num, (by repeat (first | with_reducible (first | refine .alloc ?_ _ | refine .drewN ?_ _ | refine .drew ?_) | ((with_reducible refine .setCell ?_ ?_ _); rotate_left; focus (first | (left; simp; done) | (right; simp; (first | done | omega)))) | with_reducible (first | assumption | exact .refl _ _ | refine .trans0 ?_ ‹_›))), by rw [HT.out, HS.out]⟩
          case measure => simp [intOf]; omega
        · have : j = ts.length := by omega
          subst this
          go_wp2
          go_ret
          exact ⟨ret_int (by rw [H0.out, h1]; rfl), hF⟩
end Go.Proofs.Ytkiofaojokofbaa
namespace Go.Proofs.Ytkiofaojokofbaa
open Go.RowKit

/-- The slice v, of the call's own from block base on, holds these terms, which lie away from F and from the slice's own row. -/
def OwnTerms (F : List Nat) (w : World) (base : Nat) (v : Value) (ts : List Term) (xs : List Value) : Prop :=
  w.ownsRow base 26 4 v ts.length xs ∧ xs.length = ts.length * 4 ∧
  ∀ j t, ts[j]? = some t → ∃ c0 c1 c2 c3, xs[j * 4]? = some c0 ∧ xs[j * 4 + 1]? = some c1 ∧ xs[j * 4 + 2]? = some c2 ∧ xs[j * 4 + 3]? = some c3 ∧ TermV (v.ownBlock.toList ++ F) w t (.agg #[c0, c1, c2, c3])

theorem OwnTerms.nil (F : List Nat) (w : World) (base : Nat) : OwnTerms F w base (.slice none 0 0) [] [] :=
  ⟨w.ownsRow_nil base _ _, rfl, fun j t h => by simp at h⟩

/-- A world in which no block but new ones has turned. -/
theorem OwnTerms.keep {F : List Nat} {w w' : World} {base : Nat} {v : Value} {ts : List Term} {xs : List Value} (h : OwnTerms F w base v ts xs) (f : Frm [] w w') : OwnTerms F w' base v ts xs := by
  obtain ⟨h1, h2, h3⟩ := h
  refine ⟨?_, h2, fun j t hj => ?_⟩
  · refine h1.kept (row := none) ⟨f.os, f.tape, f.output, f.size, fun k hk _ => f.block k hk (by simp)⟩ ?_
    cases v.ownBlock <;> simp
  · obtain ⟨c0, c1, c2, c3, e0, e1, e2, e3, ht⟩ := h3 j t hj
    exact ⟨c0, c1, c2, c3, e0, e1, e2, e3, ht.keep f⟩

/-- Behind an append of one term. -/
theorem OwnTerms.snoc {F : List Nat} {w w' : World} {base : Nat} {v v' : Value} {ts : List Term} {xs : List Value} {t : Term} {c0 c1 c2 c3 : Value} (h : OwnTerms F w base v ts xs)
    (ht : TermV (v.ownBlock.toList ++ F) w t (.agg #[c0, c1, c2, c3])) (ho : w'.ownsRow base 26 4 v' (ts.length + 1) (xs ++ [c0, c1, c2, c3])) (hg : w.grownBy w' v.ownBlock)
    (hat : v'.ownBlock = v.ownBlock ∨ v'.ownBlock = some w.heap.size) : OwnTerms F w' base v' (ts ++ [t]) (xs ++ [c0, c1, c2, c3]) := by
  obtain ⟨h1, h2, h3⟩ := h
  have move : ∀ u x, TermV (v.ownBlock.toList ++ F) w u x → TermV (v'.ownBlock.toList ++ F) w' u x := by
    intro u x hx
    refine TermV.same _ _ w w' (fun b hb hlt hb' => ?_) (fun b hb hlt => hg.block b hlt (fun e => hb (by rw [← e]; simp))) u x hx
    simp only [List.mem_append, Option.mem_toList] at hb hb'
    rcases hb' with hb' | hb'
    · rcases hat with hat | hat
      · rw [hat] at hb'; exact hb (.inl hb')
      · rw [hat] at hb'; simp at hb'; omega
    · exact hb (.inr hb')
  refine ⟨by simpa using ho, by simp [h2]; omega, fun j u hj => ?_⟩
  by_cases hlt : j < ts.length
  · rw [List.getElem?_append_left hlt] at hj
    obtain ⟨d0, d1, d2, d3, e0, e1, e2, e3, hu⟩ := h3 j u hj
    refine ⟨d0, d1, d2, d3, ?_, ?_, ?_, ?_, move u _ hu⟩ <;> (rw [List.getElem?_append_left (by omega)]; assumption)
  · have hj' : j = ts.length := by
      have := (List.getElem?_eq_some_iff.1 hj).1
      simp at this; omega
    subst hj'
    simp at hj
    subst hj
    refine ⟨c0, c1, c2, c3, ?_, ?_, ?_, ?_, move t _ ht⟩ <;> (rw [List.getElem?_append_right (by omega)]; simp [h2])

/-- Such a slice, as the kids of a term. -/
theorem OwnTerms.kids {F : List Nat} {w : World} {base : Nat} {v : Value} {ts : List Term} {xs : List Value} (h : OwnTerms F w base v ts xs) (hF : ∀ b, b ∈ F → b < base) :
    ∃ A cap, v = .slice A ts.length cap ∧ ts.length ≤ cap ∧ cap ≤ 9223372036854775807 ∧ KidsV F w ts A 0 := by
  obtain ⟨h1, h2, h3⟩ := h
  obtain ⟨hl, h1⟩ := h1
  rcases h1 with ⟨rfl, hx⟩ | ⟨g, cap, cur, rfl, hg, hh, hcap, hm, hsz, htake⟩
  · have : ts = [] := List.length_eq_zero_iff.1 hx
    subst this
    exact ⟨none, 0, rfl, by simp, by simp, by simp [KidsV]⟩
  · refine ⟨some ⟨g, 0, none⟩, cap, rfl, hcap, hm, KidsV.of_get _ ts 0 (fun j t hj => ?_)⟩
    have hlt := (List.getElem?_eq_some_iff.1 hj).1
    obtain ⟨c0, c1, c2, c3, e0, e1, e2, e3, ht⟩ := h3 j t hj
    have rd : ∀ i c, i < ts.length * 4 → xs[i]? = some c → w.cell? ⟨g, i, none⟩ = some c := by
      intro i c hi hc
      rw [← htake, List.getElem?_take_of_lt hi] at hc
      rw [show w.cell? ⟨g, i, none⟩ = cur[i]? by simp [World.cell?, hh]]
      simpa using hc
    refine ⟨g, 0, c0, c1, c2, c3, rfl, fun hx => by have := hF g hx; omega, ?_, ?_, ?_, ?_, ht.away (fun b hb => .inl (by simp [hb]))⟩
    · rw [show 0 + (0 + j) * 4 = j * 4 by omega]; exact rd _ _ (by omega) e0
    · rw [show 0 + (0 + j) * 4 + 1 = j * 4 + 1 by omega]; exact rd _ _ (by omega) e1
    · rw [show 0 + (0 + j) * 4 + 2 = j * 4 + 2 by omega]; exact rd _ _ (by omega) e2
    · rw [show 0 + (0 + j) * 4 + 3 = j * 4 + 3 by omega]; exact rd _ _ (by omega) e3

theorem OwnTerms.own_lt {F : List Nat} {w : World} {base : Nat} {v : Value} {ts : List Term} {xs : List Value} (h : OwnTerms F w base v ts xs) : ∀ b, b ∈ v.ownBlock.toList → base ≤ b ∧ b < w.heap.size := by
  intro b hb
  simp only [Option.mem_toList] at hb
  exact h.1.lt b hb
theorem KidsV.away_own {F : List Nat} {w wr : World} {base : Nat} {a : Value} {ts us : List Term} {xs : List Value} {A : Option Addr} {i : Nat} (h : KidsV F w ts A i) (ho : OwnTerms F wr base a us xs)
    (hb : w.heap.size ≤ base) : KidsV (a.ownBlock.toList ++ F) w ts A i :=
  h.away (fun b hb' => by
    rcases List.mem_append.1 hb' with hx | hx
    · have := (ho.own_lt b hx).1; exact .inr (by omega)
    · exact .inl hx)
theorem OwnTerms.all_lt {F : List Nat} {wr : World} {base n : Nat} {a : Value} {us : List Term} {xs : List Value} (ho : OwnTerms F wr base a us xs) (hF : ∀ b, b ∈ F → b < n) (hn : wr.heap.size ≤ n) :
    ∀ b, b ∈ a.ownBlock.toList ++ F → b < n := fun b hb => by
  rcases List.mem_append.1 hb with hx | hx
  · have := (ho.own_lt b hx).2; omega
  · exact hF b hx
theorem lt_two {F : List Nat} {x y n m : Nat} (hF : ∀ b, b ∈ F → b < m) (hx : x < n) (hy : y < n) (hm : m ≤ n) : ∀ b, b ∈ x :: y :: F → b < n := fun b hb => by
  rcases List.mem_cons.1 hb with rfl | hb
  · exact hx
  rcases List.mem_cons.1 hb with rfl | hb
  · exact hy
  have := hF b hb; omega
theorem lt_one {F : List Nat} {x n m : Nat} (hF : ∀ b, b ∈ F → b < m) (hx : x < n) (hm : m ≤ n) : ∀ b, b ∈ x :: F → b < n := fun b hb => by
  rcases List.mem_cons.1 hb with rfl | hb
  · exact hx
  have := hF b hb; omega
theorem new_two {F : List Nat} {x y n : Nat} (hx : n ≤ x) (hy : n ≤ y) : ∀ b, b ∈ x :: y :: F → b ∈ F ∨ n ≤ b := fun b hb => by
  rcases List.mem_cons.1 hb with rfl | hb
  · exact .inr hx
  rcases List.mem_cons.1 hb with rfl | hb
  · exact .inr hy
  exact .inl hb
theorem new_one {F : List Nat} {x n : Nat} (hx : n ≤ x) : ∀ b, b ∈ x :: F → b ∈ F ∨ n ≤ b := fun b hb => by
  rcases List.mem_cons.1 hb with rfl | hb
  · exact .inr hx
  exact .inl hb
/-- A term of kids that were gathered, in a later world. -/
theorem TermV.of_kids {F F2 G : List Nat} {wr W : World} {k n : Int} {s : ByteArray} {ts : List Term} {A : Option Addr} {m cap : Nat} (h1 : I64 k) (h2 : I64 n) (h3 : s.size ≤ 1048576) (h4 : ts.length ≤ 1048576)
    (h5 : ts.length ≤ cap) (h6 : cap ≤ 9223372036854775807) (h7 : KidsV F2 wr ts A 0) (f : Frm G wr W) (hG : ∀ b, b ∈ G → b ∈ F2) (hF : ∀ b, b ∈ F → b ∈ F2) (hm : m = ts.length) :
    TermV F W (.mk k n s ts) (.agg #[.int .i64 k, .int .i64 n, .string s, .slice A m cap]) := by
  subst hm
  exact TermV.mk' h1 h2 h3 h4 h5 h6 ((h7.frm f hG).away (fun b hb => .inl (hF b hb)))
theorem cells_new (w : World) (cs : List Value) (t : TypeId) : ∀ j u, cs[j]? = some u → (w.alloc (.cells cs.toArray t)).cell? ((⟨w.heap.size, 0, none⟩ : Addr).add j) = some u := by
  intro j u hj
  have hb : (w.alloc (.cells cs.toArray t)).heap[w.heap.size]? = some (.cells cs.toArray t (0, 0)) := alloc_heap_new _ _
  unfold Addr.add
  split
  · subst_vars; simp only [World.cell?, hb]; simpa using hj
  · simp only [World.cell?, hb]; simpa using hj
theorem TermV.form {F : List Nat} {w : World} {t : Term} {v : Value} (h : TermV F w t v) : ∃ A cap, v = .agg #[.int .i64 t.kind, .int .i64 t.n, .string t.s, .slice A t.kids.length cap] := by
  obtain ⟨k, n, s, ts⟩ := t
  simp only [TermV] at h
  obtain ⟨A, cap, rfl, _⟩ := h
  exact ⟨A, cap, rfl⟩
end Go.Proofs.Ytkiofaojokofbaa
namespace Go.Proofs.Ytkiofaojokofbaa
open Go.RowKit

theorem Try.infoTerm : (Try.prog.info? 26).map (fun i => (i.zero, i.size, i.bytes)) = some (some (.agg #[.int .i64 0, .int .i64 0, .string ⟨#[]⟩, .slice none 0 0]), 4, 56) := by kernel_rfl

set_option maxHeartbeats 1000000 in
theorem seal_erase : ∀ (t : Term) (F : List Nat) (v : Value) (w : World), TermV F w t v → (∀ b, b ∈ F → b < w.heap.size) →
    Calls Try.prog 64 #[v] w fun e w' => (∃ v', e = .returned v' ∧ TermV F w' t.erase v') ∧ Frm [] w w' := by
  intro t
  induction t using Term.induct with
  | h k n s ts ih =>
    intro F v w h hF
    have hv := h
    have IH := Lib.hid ih
    clear ih
    simp only [TermV] at h
    obtain ⟨A, cap, rfl, hk1, hn1, hs1, hl1, hc, hc2, hk⟩ := h
    cases h1 : Term.sealOf (.mk k n s ts)
    · have hE : Hid (Term.erase (.mk k n s ts) = .mk k n s (ts.map Term.erase)) := by
        refine Term.erase_else ?_
        rintro ⟨rfl, h2⟩
        simp [Term.sealOf, Term.kind, Term.kids, h2] at h1
      obtain ⟨i0, hi, hz0, hz1, hz2⟩ := info_parts Try.infoTerm
      go_enter Try.func64, Try.ntmps64
      go_wp2_with ((go_at_call 68; refine (seal_is F _ _ _ (hv.keep (by repeat (first | with_reducible (first | refine .alloc ?_ _ | refine .drewN ?_ _ | refine .drew ?_) | ((with_reducible refine .setCell ?_ ?_ _); rotate_left; focus (first | (left; simp; done) | (right; simp; (first | done | omega)))) | with_reducible (first | assumption | exact .refl _ _ | refine .trans0 ?_ ‹_›))))).mono ?_; rintro e w1 ⟨rfl, Fw1⟩; obtain ⟨hcw1, hfw1⟩ := Fw1.reads))
      go_loopw [3, 16] (fun a i wr => ∃ (j : Nat) (xs : List Value), j ≤ ts.length ∧ i = .int .i64 j ∧ Frm [] w1 wr ∧ OwnTerms (w.heap.size :: (w.heap.size + 1) :: F) wr w1.heap.size a ((ts.take j).map Term.erase) xs) (fun _ i _ => ts.length - (intOf i).toNat)
      case atStart => exact ⟨0, [], Nat.zero_le _, rfl, Frm.refl _ _, OwnTerms.nil _ _ _⟩
      case round =>
        obtain ⟨j, xs, hj, rfl, FR, hown⟩ := hrel
        have F0 : Frm [] w wr := (by repeat (first | with_reducible (first | refine .alloc ?_ _ | refine .drewN ?_ _ | refine .drew ?_) | ((with_reducible refine .setCell ?_ ?_ _); rotate_left; focus (first | (left; simp; done) | (right; simp; (first | done | omega)))) | with_reducible (first | assumption | exact .refl _ _ | refine .trans0 ?_ ‹_›)))
        have HOWN := Lib.hid hown
        clear hown
        by_cases hlt : j < ts.length
        · have hF1 : ∀ b, b ∈ u3.ownBlock.toList ++ (w.heap.size :: (w.heap.size + 1) :: F) → b < wr.heap.size := by
            intro b hb
            rcases List.mem_append.1 hb with hb | hb
            · exact (HOWN.out.own_lt b hb).2
            · have h2 := Fw1.size
              have h3 := FR.size
              simp at h2
              rcases List.mem_cons.1 hb with rfl | hb
              · omega
              rcases List.mem_cons.1 hb with rfl | hb
              · omega
              have := hF b hb; omega
          obtain ⟨b', off, A', cap', rfl, hb1, hb2, e0, e1, e2, e3, hkid⟩ := ((hk.away (F' := u3.ownBlock.toList ++ (w.heap.size :: (w.heap.size + 1) :: F)) (fun b hb => by
            rcases List.mem_append.1 hb with hb | hb
            · exact .inr (by have := (HOWN.out.own_lt b hb).1; have := Fw1.size; simp at this; omega)
            · rcases List.mem_cons.1 hb with rfl | hb
              · exact .inr (by omega)
              rcases List.mem_cons.1 hb with rfl | hb
              · exact .inr (by omega)
              exact .inl hb)).keep F0).kid j hlt
          have HT := Lib.hid (take_succ_get hlt)
          have HM : Hid (ts[j] ∈ ts) := List.getElem_mem hlt
          have hsz := F0.size
          have hsz1 := FR.size
          generalize ts[j] = t at *
          go_wp2_with (first
            | (go_at_call 64; refine (IH.out t HM.out (u3.ownBlock.toList ++ (w.heap.size :: (w.heap.size + 1) :: F)) _ _ (hkid.keep (by repeat (first | with_reducible (first | refine .alloc ?_ _ | refine .drewN ?_ _ | refine .drew ?_) | ((with_reducible refine .setCell ?_ ?_ _); rotate_left; focus (first | (left; simp; done) | (right; simp; (first | done | omega)))) | with_reducible (first | assumption | exact .refl _ _ | refine .trans0 ?_ ‹_›)))) (fun b hb => by have := hF1 b hb; simp; omega)).mono ?_; rintro e w2 ⟨⟨v2, rfl, hv2⟩, F2⟩; obtain ⟨A2, cap2, rfl⟩ := hv2.form; have HV2 := Lib.hid hv2; clear hv2; obtain ⟨hc2', hf2'⟩ := F2.reads; have hsz2 := F2.size; simp at hsz2; have F2' : Frm [] wr w2 := (by repeat (first | with_reducible (first | refine .alloc ?_ _ | refine .drewN ?_ _ | refine .drew ?_) | ((with_reducible refine .setCell ?_ ?_ _); rotate_left; focus (first | (left; simp; done) | (right; simp; (first | done | omega)))) | with_reducible (first | assumption | exact .refl _ _ | refine .trans0 ?_ ‹_›))); have hown2 := Lib.hid (fun o => HOWN.out.keep (F2'.alloc o)))
            | (at_builtin; go_must (refine wpList_append_own_at _ rfl _ _ 22 rfl w1.heap.size 26 i0 _ 4 56 Try.underlying22 hi hz0 hz1 hz2 rfl (by decide) u3 _ _ rfl (hown2.out _).1 ⟨w2.heap.size, 0, none⟩ 1 1 [.int .i64 t.erase.kind, .int .i64 t.erase.n, .string t.erase.s, .slice A2 t.erase.kids.length cap2] rfl rfl ?c1x ?c2x ?c3x ?c4x ?c5x ?_); (case c1x => exact cells_new _ _ _); (case c2x => simp [Value.oneCell']); (case c3x => simp [maxLen]; omega); (case c4x => simp; omega); (case c5x => simp; omega); intro v3 w3 how3 hgw3 _ hatw3))
          go_roundw
          case rel =>
            refine ⟨j + 1, xs ++ [.int .i64 t.erase.kind, .int .i64 t.erase.n, .string t.erase.s, .slice A2 t.erase.kids.length cap2], by omega, by go_num, ?_, ?_⟩
            · refine Frm.grown ((by repeat (first | with_reducible (first | refine .alloc ?_ _ | refine .drewN ?_ _ | refine .drew ?_) | ((with_reducible refine .setCell ?_ ?_ _); rotate_left; focus (first | (left; simp; done) | (right; simp; (first | done | omega)))) | with_reducible (first | assumption | exact .refl _ _ | refine .trans0 ?_ ‹_›))) : Frm [] w1 (w2.alloc _)) hgw3 (fun b hb => .inr (HOWN.out.own_lt b (by simpa using hb)).1)
            · rw [HT.out, List.map_append]
              refine (hown2.out _).snoc ?_ how3 hgw3 hatw3
              exact HV2.out.keep (by repeat (first | with_reducible (first | refine .alloc ?_ _ | refine .drewN ?_ _ | refine .drew ?_) | ((with_reducible refine .setCell ?_ ?_ _); rotate_left; focus (first | (left; simp; done) | (right; simp; (first | done | omega)))) | with_reducible (first | assumption | exact .refl _ _ | refine .trans0 ?_ ‹_›)))
          case measure => simp [intOf]; omega
        · have : j = ts.length := by omega
          subst this
          obtain ⟨A3, cap3, rfl, hle3, hcap3, hk3⟩ := HOWN.out.kids (fun b hb => by
            have h2 := Fw1.size
            simp at h2
            rcases List.mem_cons.1 hb with rfl | hb
            · omega
            rcases List.mem_cons.1 hb with rfl | hb
            · omega
            have := hF b hb; omega)
          have hb0 : w1.heap[w.heap.size]? = _ := Fw1.at0 (by repeat (first | rw [heap_alloc_at] | rw [heap_size_alloc] | rfl | rw [if_pos (by omega)] | rw [if_neg (by omega)]))
          have hb1 : w1.heap[w.heap.size + 1]? = _ := Fw1.at0 (by repeat (first | rw [heap_alloc_at] | rw [heap_size_alloc] | rfl | rw [if_pos (by omega)] | rw [if_neg (by omega)]))
          obtain ⟨q0, q1, q2, q3, q4, q5⟩ := blk4 (FR.at0 hb0)
          obtain ⟨r0, r1, r2, r3, r4, r5⟩ := blk4 (FR.at0 hb1)
          clear hb0 hb1
          go_wp2
          refine bodyPost_ret (v := .agg #[.int .i64 k, .int .i64 n, .string s, .slice A3 ts.length cap3]) (by simp [results, Try.results64, go_sem, r0, r1, r2, r3]) rfl ?_
          rw [hE.out]
          rw [List.take_length] at hle3 hk3
          refine ⟨⟨_, rfl, TermV.of_kids (G := [w.heap.size, w.heap.size + 1]) hk1 hn1 hs1 (by simpa using hl1) hle3 hcap3 hk3 (by repeat (first | with_reducible (first | refine .alloc ?_ _ | refine .drewN ?_ _ | refine .drew ?_) | ((with_reducible refine .setCell ?_ ?_ _); rotate_left; focus (first | (left; simp; done) | (right; simp; (first | done | omega)))) | with_reducible (first | assumption | exact .refl _ _ | refine .trans0 ?_ ‹_›))) (by simp) (fun b hb => by simp [hb]) (by simp)⟩, (by repeat (first | with_reducible (first | refine .alloc ?_ _ | refine .drewN ?_ _ | refine .drew ?_) | ((with_reducible refine .setCell ?_ ?_ _); rotate_left; focus (first | (left; simp; done) | (right; simp; (first | done | omega)))) | with_reducible (first | assumption | exact .refl _ _ | refine .trans0 ?_ ‹_›)))⟩
    · obtain ⟨rfl, x, rfl⟩ := Term.sealOf_true h1
      obtain ⟨b', off, A', cap', rfl, hb1, hb2, e0, e1, e2, e3, hkid⟩ := hk.kid 0 (by simp)
      have HM : Hid (x ∈ [x]) := List.mem_singleton.2 rfl
      have hb3 : b' < w.heap.size + 1 + 1 := by omega
      simp only [List.getElem_cons_zero, Nat.zero_mul, Nat.add_zero] at e0 e1 e2 e3 hkid
      have hE : Hid (Term.erase (.mk 4 n s [x]) = x.erase) := Term.erase_seal n s x
      go_enter Try.func64, Try.ntmps64
      go_wp2_with (first
        | (go_at_call 68; refine (seal_is F _ _ _ (hv.keep (by repeat (first | with_reducible (first | refine .alloc ?_ _ | refine .drewN ?_ _ | refine .drew ?_) | ((with_reducible refine .setCell ?_ ?_ _); rotate_left; focus (first | (left; simp; done) | (right; simp; (first | done | omega)))) | with_reducible (first | assumption | exact .refl _ _ | refine .trans0 ?_ ‹_›))))).mono ?_; rintro e w1 ⟨rfl, Fw1⟩; obtain ⟨hcw1, hfw1⟩ := Fw1.reads)
        | (go_at_call 64; go_must (refine (IH.out x HM.out ((w.heap.size + 1) :: F) _ _ ((hkid.away (fun b hb => by rcases List.mem_cons.1 hb with rfl | hb; exact .inr (by omega); exact .inl hb)).keep (by repeat (first | with_reducible (first | refine .alloc ?_ _ | refine .drewN ?_ _ | refine .drew ?_) | ((with_reducible refine .setCell ?_ ?_ _); rotate_left; focus (first | (left; simp; done) | (right; simp; (first | done | omega)))) | with_reducible (first | assumption | exact .refl _ _ | refine .trans0 ?_ ‹_›)))) (fun b hb => by have := Fw1.size; simp at this; rcases List.mem_cons.1 hb with rfl | hb; omega; have := hF b hb; omega)).mono ?_); rintro e w2 ⟨⟨v2, rfl, hv2⟩, F2⟩; obtain ⟨A2, cap2, rfl⟩ := hv2.form; have HV2 := Lib.hid hv2; clear hv2; obtain ⟨r0, r1, r2, r3, r4, r5⟩ := blk4 (F2.at0 (Fw1.at0 (b := w.heap.size + 1) (by repeat (first | rw [heap_alloc_at] | rw [heap_size_alloc] | rfl | rw [if_pos (by omega)] | rw [if_neg (by omega)]))))))
      refine bodyPost_ret (v := .agg #[.int .i64 x.erase.kind, .int .i64 x.erase.n, .string x.erase.s, .slice A2 x.erase.kids.length cap2]) (by simp [results, Try.results64, go_sem, r0, r1, r2, r3]) rfl ?_
      rw [hE.out]
      have hq : w.heap.size + 1 < w1.heap.size := by have := Fw1.size; simp at this; omega
      exact ⟨⟨_, rfl, (HV2.out.frm (G := [w.heap.size + 1]) (by repeat (first | with_reducible (first | refine .alloc ?_ _ | refine .drewN ?_ _ | refine .drew ?_) | ((with_reducible refine .setCell ?_ ?_ _); rotate_left; focus (first | (left; simp; done) | (right; simp; (first | done | omega)))) | with_reducible (first | assumption | exact .refl _ _ | refine .trans0 ?_ ‹_›))) (by simp)).away (fun b hb => .inl (by simp [hb]))⟩, (by repeat (first | with_reducible (first | refine .alloc ?_ _ | refine .drewN ?_ _ | refine .drew ?_) | ((with_reducible refine .setCell ?_ ?_ _); rotate_left; focus (first | (left; simp; done) | (right; simp; (first | done | omega)))) | with_reducible (first | assumption | exact .refl _ _ | refine .trans0 ?_ ‹_›)))⟩
end Go.Proofs.Ytkiofaojokofbaa
namespace Go.Proofs.Ytkiofaojokofbaa
open Go.RowKit
namespace Lat
/-- A level, or -1. -/
def Rng (x : Int) : Prop := -1 ≤ x ∧ x < 16
theorem joinFrom_rng (l : Lat) (both : Nat) : ∀ d c, (c + d : Nat) ≤ 16 → Rng (l.joinFrom both d c)
  | 0, c, _ => ⟨by simp [joinFrom], by simp [joinFrom]⟩
  | d + 1, c, h => by
    unfold joinFrom
    split
    · exact ⟨by omega, by omega⟩
    · exact joinFrom_rng l both d (c + 1) (by omega)
theorem join_rng {l : Lat} (h : l.WF) (a b : Int) : Rng (l.join a b) := by
  unfold join
  split
  · exact joinFrom_rng l _ l.n 0 (by have := h.n16; omega)
  · exact ⟨by decide, by decide⟩
theorem bottomTo_rng (l : Lat) : ∀ k, k ≤ 16 → Rng (l.bottomTo k)
  | 0, _ => ⟨by simp [bottomTo], by simp [bottomTo]⟩
  | k + 1, h => by
    have ih := bottomTo_rng l k (by omega)
    have : l.bottomTo (k + 1) = l.bottomStep (l.bottomTo k) k := by simp [bottomTo, List.range_succ]
    rw [this]; unfold bottomStep
    split
    · exact ⟨by omega, by omega⟩
    · exact ih
theorem topTo_rng (l : Lat) : ∀ k, k ≤ 16 → Rng (l.topTo k)
  | 0, _ => ⟨by simp [topTo], by simp [topTo]⟩
  | k + 1, h => by
    have ih := topTo_rng l k (by omega)
    have : l.topTo (k + 1) = l.topStep (l.topTo k) k := by simp [topTo, List.range_succ]
    rw [this]; unfold topStep
    split
    · exact ⟨by omega, by omega⟩
    · exact ih
theorem bottom_rng {l : Lat} (h : l.WF) : Rng l.bottom := bottomTo_rng l l.n h.n16
theorem top_rng {l : Lat} (h : l.WF) : Rng l.top := topTo_rng l l.n h.n16
theorem level_rng {l : Lat} (h : l.WF) (n : Int) : Rng (l.level n) := by
  unfold level
  split
  · exact top_rng h
  · rename_i h1
    have := h.n16
    exact ⟨by omega, by omega⟩
theorem peel_rng {l : Lat} (h : l.WF) (t : Term) : ∀ a, Rng a → Rng (l.peel a t).2 := by
  induction t using Term.induct with
  | h k n s ts ih =>
    intro a ha
    unfold peel
    split
    · exact ih _ (by simp) _ (join_rng h _ _)
    · exact ha
theorem opened_rng {l : Lat} (h : l.WF) (t : Term) : Rng (l.opened t).2 := by
  unfold opened
  split
  · exact peel_rng h t _ (bottom_rng h)
  · exact bottom_rng h
theorem joinTs_rng {l : Lat} (h : l.WF) (ts : List Term) : ∀ a, Rng a → Rng (l.joinTs a ts) := by
  induction ts with
  | nil => intro a ha; exact ha
  | cons t ts ih => intro a _; exact ih _ (join_rng h _ _)
theorem joinT_rng {l : Lat} (h : l.WF) (t : Term) : Rng (l.joinT t) := by
  obtain ⟨k, n, s, ts⟩ := t
  unfold joinT
  refine joinTs_rng h ts _ ?_
  split
  · exact level_rng h n
  · exact bottom_rng h
end Lat
end Go.Proofs.Ytkiofaojokofbaa
namespace Go.Proofs.Ytkiofaojokofbaa
open Go.RowKit

theorem Lat.Rng.i64 {x : Int} (h : Lat.Rng x) : I64 x := by obtain ⟨h1, h2⟩ := h; unfold I64; omega

/-- What lies in a box: a term's four cells. -/
def TBoxed (F : List Nat) (w : World) (b : Nat) (t : Term) : Prop := ∃ A cap, w.heap[b]? = some (.cells #[.int .i64 t.kind, .int .i64 t.n, .string t.s, .slice A t.kids.length cap] 26 (0, 0)) ∧
  TermV F w t (.agg #[.int .i64 t.kind, .int .i64 t.n, .string t.s, .slice A t.kids.length cap])

set_option maxHeartbeats 1000000 in
theorem seal_open (F : List Nat) (l : Lat) (b : Nat) (t : Term) (v : Value) (w : World) (hl : LatAt w b l) (h : TermV F w t v) (hF : ∀ b, b ∈ F → b < w.heap.size) :
    Calls Try.prog 57 #[.pointer (some ⟨b, 0, none⟩), v] w fun e w' => (∃ v', e = .returned (.tuple #[v', .int .i64 (l.opened t).2]) ∧ TermV F w' (l.opened t).1 v') ∧ Frm [] w w' := by
  have hv := h
  obtain ⟨k, n, s, ts⟩ := t
  simp only [TermV] at h
  obtain ⟨A, cap, rfl, hk1, hn1, hs1, hl1, hc, hc2, hk⟩ := h
  cases h1 : Term.sealOf (.mk k n s ts)
  · have hE : Hid (l.opened (.mk k n s ts) = (.mk k n s ts, l.bottom)) := by
      show _ = _
      simp [Lat.opened, h1]
    go_enter Try.func57, Try.ntmps57
    go_wp2_with (first
      | (go_at_call 21; refine (lat_bottom l b _ (hl.frm0 (by repeat (first | with_reducible (first | refine .alloc ?_ _ | refine .drewN ?_ _ | refine .drew ?_) | ((with_reducible refine .setCell ?_ ?_ _); rotate_left; focus (first | (left; simp; done) | (right; simp; (first | done | omega)))) | with_reducible (first | assumption | exact .refl _ _ | refine .trans0 ?_ ‹_›))))).mono ?_; rintro e w' ⟨rfl, rfl⟩)
      | ((go_at_call 68; refine (seal_is F _ _ _ (hv.keep (by repeat (first | with_reducible (first | refine .alloc ?_ _ | refine .drewN ?_ _ | refine .drew ?_) | ((with_reducible refine .setCell ?_ ?_ _); rotate_left; focus (first | (left; simp; done) | (right; simp; (first | done | omega)))) | with_reducible (first | assumption | exact .refl _ _ | refine .trans0 ?_ ‹_›))))).mono ?_; rintro e w1 ⟨rfl, Fw1⟩; obtain ⟨hcw1, hfw1⟩ := Fw1.reads); obtain ⟨r0, r1, r2, r3, r4, r5⟩ := blk4 (Fw1.at0 (b := w.heap.size + 1) (by repeat (first | rw [heap_alloc_at] | rw [heap_size_alloc] | rfl | rw [if_pos (by omega)] | rw [if_neg (by omega)])))))
    refine bodyPost_ret (v := .tuple #[.agg #[.int .i64 k, .int .i64 n, .string s, .slice A ts.length cap], .int .i64 l.bottom]) (by simp [results, Try.results57, go_sem, r0, r1, r2, r3]) rfl ?_
    rw [hE.out]
    exact ⟨⟨_, rfl, ((hv.away (F' := (w.heap.size + 1) :: F) (fun b hb => by rcases List.mem_cons.1 hb with rfl | hb; exact .inr (by omega); exact .inl hb)).frm (G := [w.heap.size + 1]) (by repeat (first | with_reducible (first | refine .alloc ?_ _ | refine .drewN ?_ _ | refine .drew ?_) | ((with_reducible refine .setCell ?_ ?_ _); rotate_left; focus (first | (left; simp; done) | (right; simp; (first | done | omega)))) | with_reducible (first | assumption | exact .refl _ _ | refine .trans0 ?_ ‹_›))) (by simp)).away (fun b hb => .inl (by simp [hb]))⟩, (by repeat (first | with_reducible (first | refine .alloc ?_ _ | refine .drewN ?_ _ | refine .drew ?_) | ((with_reducible refine .setCell ?_ ?_ _); rotate_left; focus (first | (left; simp; done) | (right; simp; (first | done | omega)))) | with_reducible (first | assumption | exact .refl _ _ | refine .trans0 ?_ ‹_›)))⟩
  · obtain ⟨rfl, x, rfl⟩ := Term.sealOf_true h1
    have hE : Hid (l.opened (.mk 4 n s [x]) = (.mk (l.peel l.bottom (.mk 4 n s [x])).1.kind (l.peel l.bottom (.mk 4 n s [x])).1.n (l.peel l.bottom (.mk 4 n s [x])).1.s ((l.peel l.bottom (.mk 4 n s [x])).1.kids.map (Term.put (l.peel l.bottom (.mk 4 n s [x])).2)), (l.peel l.bottom (.mk 4 n s [x])).2)) := by
      show _ = _
      simp [Lat.opened, h1]
    obtain ⟨i0, hi, hz0, hz1, hz2⟩ := info_parts Try.infoTerm
    have hl0 := hl.lt
    have hv2 : TermV (w.heap.size :: (w.heap.size + 1) :: F) w _ _ := hv.away (F' := w.heap.size :: (w.heap.size + 1) :: F) (fun b hb => by
      rcases List.mem_cons.1 hb with rfl | hb
      · exact .inr (by omega)
      rcases List.mem_cons.1 hb with rfl | hb
      · exact .inr (by omega)
      exact .inl hb)
    go_enter Try.func57, Try.ntmps57
    go_wp2_with (first
      | (go_at_call 21; refine (lat_bottom l b _ (hl.frm0 (by repeat (first | with_reducible (first | refine .alloc ?_ _ | refine .drewN ?_ _ | refine .drew ?_) | ((with_reducible refine .setCell ?_ ?_ _); rotate_left; focus (first | (left; simp; done) | (right; simp; (first | done | omega)))) | with_reducible (first | assumption | exact .refl _ _ | refine .trans0 ?_ ‹_›))))).mono ?_; rintro e w' ⟨rfl, rfl⟩)
      | (go_at_call 68; refine (seal_is F _ _ _ (hv.keep (by repeat (first | with_reducible (first | refine .alloc ?_ _ | refine .drewN ?_ _ | refine .drew ?_) | ((with_reducible refine .setCell ?_ ?_ _); rotate_left; focus (first | (left; simp; done) | (right; simp; (first | done | omega)))) | with_reducible (first | assumption | exact .refl _ _ | refine .trans0 ?_ ‹_›))))).mono ?_; rintro e w1 ⟨rfl, Fw1⟩; obtain ⟨hcw1, hfw1⟩ := Fw1.reads))
    have hsz1 := Fw1.size
    simp at hsz1
    go_loopg [6] (Term.size (.mk 4 n s [x])) (fun g a wr => ∃ (T : Term) (z : Int), g = T.size ∧ a = .int .i64 z ∧ Lat.Rng z ∧ l.peel l.bottom (.mk 4 n s [x]) = l.peel z T ∧ Frm [w.heap.size] w1 wr ∧ TBoxed (w.heap.size :: (w.heap.size + 1) :: F) wr w.heap.size T)
    case atStart => exact ⟨_, _, rfl, rfl, Lat.bottom_rng hl.wf, rfl, Frm.refl _ _, A, cap, Fw1.at0 (by repeat (first | rw [heap_alloc_at] | rw [heap_size_alloc] | rfl | rw [if_pos (by omega)] | rw [if_neg (by omega)])), hv2.keep (by repeat (first | with_reducible (first | refine .alloc ?_ _ | refine .drewN ?_ _ | refine .drew ?_) | ((with_reducible refine .setCell ?_ ?_ _); rotate_left; focus (first | (left; simp; done) | (right; simp; (first | done | omega)))) | with_reducible (first | assumption | exact .refl _ _ | refine .trans0 ?_ ‹_›)))⟩
    case round =>
      obtain ⟨T, z, hg, rfl, hz, hp, FR, A1, cap1, hbox, hT⟩ := hrel
      have HP := Lib.hid hp
      have HG := Lib.hid hg
      have HZ := Lib.hid hz
      clear hp hg hz
      obtain ⟨q0, q1, q2, q3, q4, q5⟩ := blk4 hbox
      have FR0 : Frm [] w wr := ((by repeat (first | with_reducible (first | refine .alloc ?_ _ | refine .drewN ?_ _ | refine .drew ?_) | ((with_reducible refine .setCell ?_ ?_ _); rotate_left; focus (first | (left; simp; done) | (right; simp; (first | done | omega)))) | with_reducible (first | assumption | exact .refl _ _ | refine .trans0 ?_ ‹_›))) : Frm [] w w1).trans FR (fun x hx => by simp at hx; omega)
      cases hs : T.sealOf
      · go_wp2_with ((go_at_call 68; refine (seal_is _ _ _ _ (hT.keep (by repeat (first | with_reducible (first | refine .alloc ?_ _ | refine .drewN ?_ _ | refine .drew ?_) | ((with_reducible refine .setCell ?_ ?_ _); rotate_left; focus (first | (left; simp; done) | (right; simp; (first | done | omega)))) | with_reducible (first | assumption | exact .refl _ _ | refine .trans0 ?_ ‹_›))))).mono ?_; rintro e w2 ⟨rfl, Fw2⟩; obtain ⟨hcw2, hfw2⟩ := Fw2.reads))
        have hpe : Hid (l.peel l.bottom (.mk 4 n s [x]) = (T, z)) := by
          show _ = _
          rw [HP.out, Lat.peel_else _ _ _ hs]
        have hbox2 := Fw2.at0 hbox
        have hT2 := hT.keep Fw2
        have hkT : ∃ A cap, A = A1 ∧ cap = cap1 ∧ I64 T.kind ∧ I64 T.n ∧ T.s.size ≤ 1048576 ∧ T.kids.length ≤ 1048576 ∧ T.kids.length ≤ cap ∧ cap ≤ 9223372036854775807 ∧ KidsV (w.heap.size :: (w.heap.size + 1) :: F) w2 T.kids A 0 := by
          clear HP HG hpe
          obtain ⟨k3, n3, s3, ts3⟩ := T
          simp only [TermV] at hT2
          obtain ⟨A3, cap3, he, h⟩ := hT2
          simp only [Value.agg.injEq, Array.mk.injEq, List.cons.injEq, Value.slice.injEq, and_true] at he
          exact ⟨A3, cap3, he.2.2.2.1.symm, he.2.2.2.2.2.symm, h⟩
        obtain ⟨_, _, rfl, rfl, hTk, hTn, hTs, hTl, hTc, hTc2, hTK⟩ := hkT
        have F02 : Frm [] w w2 := (by repeat (first | with_reducible (first | refine .alloc ?_ _ | refine .drewN ?_ _ | refine .drew ?_) | ((with_reducible refine .setCell ?_ ?_ _); rotate_left; focus (first | (left; simp; done) | (right; simp; (first | done | omega)))) | with_reducible (first | assumption | exact .refl _ _ | refine .trans0 ?_ ‹_›)))
        have hb1 : w1.heap[w.heap.size + 1]? = _ := Fw1.at0 (by repeat (first | rw [heap_alloc_at] | rw [heap_size_alloc] | rfl | rw [if_pos (by omega)] | rw [if_neg (by omega)]))
        have hbox1 := Fw2.at0 (FR.at_ hb1 (by simp))
        have hsz12 : w1.heap.size ≤ w2.heap.size := by have := FR.size; have := Fw2.size; omega
        clear HP HG hbox hT hT2 q0 q1 q2 q3 q4 q5 FR hb1
        have hsz2 := F02.size
        go_loopw [7, 32] (fun a i wr => ∃ (j : Nat) (xs : List Value), j ≤ T.kids.length ∧ i = .int .i64 j ∧ Frm [] w2 wr ∧ OwnTerms (w.heap.size :: (w.heap.size + 1) :: F) wr w2.heap.size a ((T.kids.take j).map (Term.put z)) xs) (fun _ i _ => T.kids.length - (intOf i).toNat)
        case atStart => exact ⟨0, [], Nat.zero_le _, rfl, Frm.refl _ _, OwnTerms.nil _ _ _⟩
        case round =>
          obtain ⟨j, xs, hj, rfl, FL, hown⟩ := hrel
          have HOWN := Lib.hid hown
          clear hown
          have hF2 := lt_two (x := w.heap.size) (y := w.heap.size + 1) (n := wr.heap.size) hF (by have := FL.size; omega) (by have := FL.size; omega) (by have := FL.size; omega)
          have hF1 := HOWN.out.all_lt hF2 (Nat.le_refl _)
          by_cases hlt : j < T.kids.length
          · obtain ⟨b', off, A', cap', rfl, hb1, hb2, e0, e1, e2, e3, hkid⟩ := ((hTK.away_own HOWN.out (Nat.le_refl _)).keep FL).kid j hlt
            have HT := Lib.hid (take_succ_get hlt)
            have hsz3 := FL.size
            have hzi := HZ.out.i64
            generalize T.kids[j] = t at *
            go_wp2_with (first
              | (go_at_call 15; refine (seal_put (u7.ownBlock.toList ++ (w.heap.size :: (w.heap.size + 1) :: F)) t _ z _ (hkid.keep (by repeat (first | with_reducible (first | refine .alloc ?_ _ | refine .drewN ?_ _ | refine .drew ?_) | ((with_reducible refine .setCell ?_ ?_ _); rotate_left; focus (first | (left; simp; done) | (right; simp; (first | done | omega)))) | with_reducible (first | assumption | exact .refl _ _ | refine .trans0 ?_ ‹_›)))) hzi (fun b hb => by have := hF1 b hb; simp; omega)).mono ?_; rintro e w5 ⟨⟨v2, rfl, hv5⟩, F5⟩; obtain ⟨A2, cap2, rfl⟩ := hv5.form; have HV2 := Lib.hid hv5; clear hv5; obtain ⟨hc2', hf2'⟩ := F5.reads; have hsz5 := F5.size; simp at hsz5; have F5' : Frm [] wr w5 := (by repeat (first | with_reducible (first | refine .alloc ?_ _ | refine .drewN ?_ _ | refine .drew ?_) | ((with_reducible refine .setCell ?_ ?_ _); rotate_left; focus (first | (left; simp; done) | (right; simp; (first | done | omega)))) | with_reducible (first | assumption | exact .refl _ _ | refine .trans0 ?_ ‹_›))); have hown2 := Lib.hid (fun o => HOWN.out.keep (F5'.alloc o)))
              | (at_builtin; go_must (refine wpList_append_own_at _ rfl _ _ 22 rfl w2.heap.size 26 i0 _ 4 56 Try.underlying22 hi hz0 hz1 hz2 rfl (by decide) u7 _ _ rfl (hown2.out _).1 ⟨w5.heap.size, 0, none⟩ 1 1 [.int .i64 (t.put z).kind, .int .i64 (t.put z).n, .string (t.put z).s, .slice A2 (t.put z).kids.length cap2] rfl rfl ?c1x ?c2x ?c3x ?c4x ?c5x ?_); (case c1x => exact cells_new _ _ _); (case c2x => simp [Value.oneCell']); (case c3x => simp [maxLen]; omega); (case c4x => simp; omega); (case c5x => simp; omega); intro v6 w6 how6 hgw6 _ hatw6))
            go_roundw
            case rel =>
              refine ⟨j + 1, xs ++ [.int .i64 (t.put z).kind, .int .i64 (t.put z).n, .string (t.put z).s, .slice A2 (t.put z).kids.length cap2], by omega, by go_num, ?_, ?_⟩
              · exact Frm.grown ((by repeat (first | with_reducible (first | refine .alloc ?_ _ | refine .drewN ?_ _ | refine .drew ?_) | ((with_reducible refine .setCell ?_ ?_ _); rotate_left; focus (first | (left; simp; done) | (right; simp; (first | done | omega)))) | with_reducible (first | assumption | exact .refl _ _ | refine .trans0 ?_ ‹_›))) : Frm [] w2 (w5.alloc _)) hgw6 (fun b hb => .inr (HOWN.out.own_lt b (by simpa using hb)).1)
              · rw [HT.out, List.map_append]
                refine (hown2.out _).snoc ?_ how6 hgw6 hatw6
                exact HV2.out.keep (by repeat (first | with_reducible (first | refine .alloc ?_ _ | refine .drewN ?_ _ | refine .drew ?_) | ((with_reducible refine .setCell ?_ ?_ _); rotate_left; focus (first | (left; simp; done) | (right; simp; (first | done | omega)))) | with_reducible (first | assumption | exact .refl _ _ | refine .trans0 ?_ ‹_›)))
            case measure => simp [intOf]; omega
          · have : j = T.kids.length := by omega
            subst this
            obtain ⟨A3, cap3, rfl, hle3, hcap3, hk3⟩ := HOWN.out.kids (lt_two (n := w2.heap.size) hF (by omega) (by omega) (by omega))
            obtain ⟨q0, q1, q2, q3, q4, q5⟩ := blk4 (FL.at0 hbox2)
            obtain ⟨r0, r1, r2, r3, r4, r5⟩ := blk4 (FL.at0 hbox1)
            have FL0 : Frm [] w wr := F02.trans0 FL
            rw [List.take_length] at hle3 hk3
            go_wp2
            refine bodyPost_ret (v := .tuple #[.agg #[.int .i64 T.kind, .int .i64 T.n, .string T.s, .slice A3 T.kids.length cap3], .int .i64 z]) (by simp [results, Try.results57, go_sem, r0, r1, r2, r3]) rfl ?_
            rw [hE.out, hpe.out]
            refine ⟨⟨_, rfl, TermV.of_kids (G := [w.heap.size, w.heap.size + 1]) hTk hTn hTs (by simpa using hTl) hle3 hcap3 hk3 (by repeat (first | with_reducible (first | refine .alloc ?_ _ | refine .drewN ?_ _ | refine .drew ?_) | ((with_reducible refine .setCell ?_ ?_ _); rotate_left; focus (first | (left; simp; done) | (right; simp; (first | done | omega)))) | with_reducible (first | assumption | exact .refl _ _ | refine .trans0 ?_ ‹_›))) (by simp) (fun b hb => by simp [hb]) (by simp)⟩, (by repeat (first | with_reducible (first | refine .alloc ?_ _ | refine .drewN ?_ _ | refine .drew ?_) | ((with_reducible refine .setCell ?_ ?_ _); rotate_left; focus (first | (left; simp; done) | (right; simp; (first | done | omega)))) | with_reducible (first | assumption | exact .refl _ _ | refine .trans0 ?_ ‹_›)))⟩
      · obtain ⟨k2, n2, s2, ts2⟩ := T
        obtain ⟨rfl, y, rfl⟩ := Term.sealOf_true hs
        have hT0 := hT
        simp only [TermV] at hT
        obtain ⟨A1', cap1', hAe, hk3, hn3, hs3, hl3, hc3, hc4, hky⟩ := hT
        simp only [Value.agg.injEq, Array.mk.injEq, List.cons.injEq, Value.slice.injEq, and_true] at hAe
        obtain ⟨_, _, _, rfl, _, rfl⟩ := hAe
        obtain ⟨b', off, A', cap', rfl, hb1, hb2, e0, e1, e2, e3, hkid⟩ := hky.kid 0 (by simp)
        simp only [List.getElem_cons_zero, Nat.zero_mul, Nat.add_zero] at e0 e1 e2 e3 hkid
        go_wp2_with (first
          | (go_at_call 68; refine (seal_is _ _ _ _ (hT0.keep (by repeat (first | with_reducible (first | refine .alloc ?_ _ | refine .drewN ?_ _ | refine .drew ?_) | ((with_reducible refine .setCell ?_ ?_ _); rotate_left; focus (first | (left; simp; done) | (right; simp; (first | done | omega)))) | with_reducible (first | assumption | exact .refl _ _ | refine .trans0 ?_ ‹_›))))).mono ?_; rintro e w2 ⟨rfl, Fw2⟩; obtain ⟨hcw2, hfw2⟩ := Fw2.reads)
          | ((go_at_call 69; refine (seal_level _ l b _ _ _ (hl.frm0 (by repeat (first | with_reducible (first | refine .alloc ?_ _ | refine .drewN ?_ _ | refine .drew ?_) | ((with_reducible refine .setCell ?_ ?_ _); rotate_left; focus (first | (left; simp; done) | (right; simp; (first | done | omega)))) | with_reducible (first | assumption | exact .refl _ _ | refine .trans0 ?_ ‹_›)))) (hT0.keep (by repeat (first | with_reducible (first | refine .alloc ?_ _ | refine .drewN ?_ _ | refine .drew ?_) | ((with_reducible refine .setCell ?_ ?_ _); rotate_left; focus (first | (left; simp; done) | (right; simp; (first | done | omega)))) | with_reducible (first | assumption | exact .refl _ _ | refine .trans0 ?_ ‹_›))))).mono ?_; rintro e w3 ⟨rfl, Fw3⟩; obtain ⟨hcw3, hfw3⟩ := Fw3.reads); have hz1 : b' < w2.heap.size := by have := Fw2.size; omega)
          | (go_at_call 47; refine (lat_join l b _ _ _ (hl.frm0 (by repeat (first | with_reducible (first | refine .alloc ?_ _ | refine .drewN ?_ _ | refine .drew ?_) | ((with_reducible refine .setCell ?_ ?_ _); rotate_left; focus (first | (left; simp; done) | (right; simp; (first | done | omega)))) | with_reducible (first | assumption | exact .refl _ _ | refine .trans0 ?_ ‹_›))))).mono ?_; rintro e w4 ⟨rfl, ⟨d4, rfl⟩⟩; obtain ⟨q0, q1, q2, q3, q4, q5⟩ := blk4 (Fw3.at0 (Fw2.at0 hbox))))
        go_roundg (Term.size y)
        case measure => rw [HG.out]; exact Term.size_kid _ _ _ _
        case rel =>
          refine ⟨y, l.join z (l.level n2), rfl, rfl, Lat.join_rng hl.wf _ _, ?_, ?_, A', cap', ?_, ?_⟩
          · rw [HP.out, Lat.peel_seal]
          · exact FR.trans' (by repeat (first | with_reducible (first | refine .alloc ?_ _ | refine .drewN ?_ _ | refine .drew ?_) | ((with_reducible refine .setCell ?_ ?_ _); rotate_left; focus (first | (left; simp; done) | (right; simp; (first | done | omega)))) | with_reducible (first | assumption | exact .refl _ _ | refine .trans0 ?_ ‹_›)))
          · exact box_store4 (w := w3.drewN d4) (Fw3.at0 (Fw2.at0 hbox)) _ _ _ _
          · exact hkid.frm (G := [w.heap.size]) (by repeat (first | with_reducible (first | refine .alloc ?_ _ | refine .drewN ?_ _ | refine .drew ?_) | ((with_reducible refine .setCell ?_ ?_ _); rotate_left; focus (first | (left; simp; done) | (right; simp; (first | done | omega)))) | with_reducible (first | assumption | exact .refl _ _ | refine .trans0 ?_ ‹_›))) (by simp)
end Go.Proofs.Ytkiofaojokofbaa
