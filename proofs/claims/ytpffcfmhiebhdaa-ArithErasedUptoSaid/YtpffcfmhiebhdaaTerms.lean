/- Terms as data, and the plain functions on them that the program's layers seal and term compute. -/
import Derived.Test.YtpffcfmhiebhdaaPure
namespace Go.Proofs.Ytpffcfmhiebhdaa
open Go.RowKit

inductive Term where
  | mk (kind n : Int) (s : ByteArray) (kids : List Term)
deriving Inhabited

namespace Term
def kind : Term → Int | mk k _ _ _ => k
def n : Term → Int | mk _ n _ _ => n
def s : Term → ByteArray | mk _ _ s _ => s
def kids : Term → List Term | mk _ _ _ ts => ts

theorem eta (t : Term) : t = .mk t.kind t.n t.s t.kids := by cases t; rfl

/-- An induction over a term and all its parts. -/
theorem induct {P : Term → Prop} (h : ∀ k n s ts, (∀ t, t ∈ ts → P t) → P (.mk k n s ts)) : ∀ t, P t := by
  intro t
  exact Term.rec (motive_1 := P) (motive_2 := fun ts => ∀ t, t ∈ ts → P t) (fun k n s ts ih => h k n s ts ih) (fun _ hm => by simp at hm)
    (fun t ts h1 h2 x hx => by
      rcases List.mem_cons.1 hx with rfl | hx
      · exact h1
      · exact h2 x hx) t

mutual
def size : Term → Nat
  | mk _ _ _ ts => 1 + sizes ts
def sizes : List Term → Nat
  | [] => 0
  | t :: ts => size t + sizes ts
end
mutual
def deep : Term → Nat
  | mk _ _ _ ts => 1 + deeps ts
def deeps : List Term → Nat
  | [] => 0
  | t :: ts => max (deep t) (deeps ts)
end
mutual
/-- A part before its kids, and the kids in order. -/
def parts : Term → List Term
  | mk k n s ts => mk k n s ts :: partss ts
def partss : List Term → List Term
  | [] => []
  | t :: ts => parts t ++ partss ts
end
mutual
def beq : Term → Term → Bool
  | mk k n s ts, mk k' n' s' ts' => k == k' && n == n' && s == s' && beqs ts ts'
def beqs : List Term → List Term → Bool
  | [], [] => true
  | t :: ts, t' :: ts' => beq t t' && beqs ts ts'
  | _, _ => false
end
def sealOf (t : Term) : Bool := t.kind == 4 && t.kids.length == 1
mutual
def erase : Term → Term
  | mk k n s ts => match k == 4, erases ts with
    | true, [t] => t
    | _, l => mk k n s l
def erases : List Term → List Term
  | [] => []
  | t :: ts => erase t :: erases ts
end
def put (n : Int) (t : Term) : Term := mk 4 n ByteArray.empty [t]
def num (n : Int) : Term := mk 2 n ByteArray.empty []
def var (n : Int) : Term := mk 1 n ByteArray.empty []
def fn (s : ByteArray) (ts : List Term) : Term := mk 3 0 s ts
/-- The variables, in the order of their first places. -/
def addVar (l : List Int) (p : Term) : List Int := if p.kind == 1 && !l.contains p.n then l ++ [p.n] else l
def vars (t : Term) : List Int := t.parts.foldl addVar []
def alone (levels : Int) (t : Term) : Bool :=
  if t.kind == 1 then decide (0 ≤ t.n) && decide (t.n < 4096) && (t.s == ByteArray.empty) && (t.kids.length == 0)
  else if t.kind == 2 then (t.s == ByteArray.empty) && (t.kids.length == 0)
  else if t.kind == 3 then (t.n == 0) && decide (t.s.size ≤ 64) && decide (t.kids.length ≤ 8)
  else if t.kind == 4 then (t.s == ByteArray.empty) && decide (0 ≤ t.n) && decide (t.n < levels) && (match t.kids with | [k] => k.vars.length == 0 | _ => false)
  else false
def check (levels : Int) (t : Term) : Int :=
  if 1000 < t.size then 3 else if 60 < t.deep then 7 else if t.parts.all (alone levels) then 0 else 4

theorem erases_map (ts : List Term) : erases ts = ts.map erase := by
  induction ts with
  | nil => rfl
  | cons t ts ih => simp [erases, ih]
theorem erase_seal (n : Int) (s : ByteArray) (t : Term) : erase (mk 4 n s [t]) = erase t := rfl
theorem erase_else {k n : Int} {s : ByteArray} {ts : List Term} (h : ¬ (k = 4 ∧ ts.length = 1)) : erase (mk k n s ts) = mk k n s (ts.map erase) := by
  simp only [erase, erases_map]
  by_cases hk : k = 4
  · have hl : ts.length ≠ 1 := fun h1 => h ⟨hk, h1⟩
    match ts, hl with
    | [], _ => simp
    | [x], hl => simp at hl
    | x :: y :: r, _ => simp
  · have : (k == 4) = false := by simpa using hk
    simp [this]
theorem sizes_eq (ts : List Term) : sizes ts = (ts.map size).sum := by
  induction ts with
  | nil => rfl
  | cons t ts ih => simp [sizes, ih]
theorem partss_eq (ts : List Term) : partss ts = ts.flatMap parts := by
  induction ts with
  | nil => rfl
  | cons t ts ih => simp [partss, ih]
theorem size_pos (t : Term) : 1 ≤ t.size := by cases t; simp [size]
theorem length_sizes (ts : List Term) : ts.length ≤ sizes ts := by
  induction ts with
  | nil => simp
  | cons t ts ih => have := size_pos t; simp [sizes]; omega
theorem sizes_append (xs ys : List Term) : sizes (xs ++ ys) = sizes xs + sizes ys := by simp [sizes_eq]
theorem size_mem {t : Term} {ts : List Term} (h : t ∈ ts) : t.size ≤ sizes ts := by
  induction ts with
  | nil => simp at h
  | cons x xs ih =>
    rcases List.mem_cons.1 h with rfl | h
    · simp [sizes]
    · have := ih h; simp [sizes]; omega
theorem length_partss_and : (∀ t : Term, t.parts.length = t.size) := by
  intro t
  induction t using induct with
  | h k n s ts ih =>
    simp only [parts, size, List.length_cons, partss_eq, sizes_eq, List.length_flatMap]
    have : ts.map (fun t => t.parts.length) = ts.map size := List.map_congr_left ih
    rw [this]; omega
theorem sealOf_true {k n : Int} {s : ByteArray} {ts : List Term} (h : sealOf (mk k n s ts) = true) : k = 4 ∧ ∃ x, ts = [x] := by
  simp only [sealOf, kind, kids, Bool.and_eq_true, beq_iff_eq] at h
  exact ⟨h.1, List.length_eq_one_iff.1 h.2⟩
theorem size_kid (k n : Int) (s : ByteArray) (x : Term) : x.size < (mk k n s [x]).size := by simp [size, sizes]
end Term

namespace Lat
def level (l : Lat) (n : Int) : Int := if n < 0 ∨ l.n ≤ n then l.top else n
mutual
def joinT (l : Lat) : Term → Int
  | .mk k n _ ts => joinTs l (if k == 4 then l.level n else l.bottom) ts
def joinTs (l : Lat) (a : Int) : List Term → Int
  | [] => a
  | t :: ts => joinTs l (l.join a (joinT l t)) ts
end
/-- The seals at the head of a term: what they stand round, and the join of their levels. -/
def peel (l : Lat) (a : Int) : Term → Term × Int
  | .mk k n s ts => match k == 4, ts with
    | true, [t] => peel l (l.join a (l.level n)) t
    | _, ts => (.mk k n s ts, a)
def opened (l : Lat) (t : Term) : Term × Int :=
  if t.sealOf then
    let p := l.peel l.bottom t
    (.mk p.1.kind p.1.n p.1.s (p.1.kids.map (Term.put p.2)), p.2)
  else (t, l.bottom)
theorem peel_seal (l : Lat) (a n : Int) (s : ByteArray) (t : Term) : l.peel a (.mk 4 n s [t]) = l.peel (l.join a (l.level n)) t := rfl
theorem peel_else (l : Lat) (a : Int) (t : Term) (h : t.sealOf = false) : l.peel a t = (t, a) := by
  obtain ⟨k, n, s, ts⟩ := t
  unfold peel
  cases hk : (k == 4)
  · rfl
  · match ts, h with
    | [], _ => rfl
    | [x], h => simp [Term.sealOf, Term.kind, Term.kids] at h hk; exact (h hk).elim
    | x :: y :: r, _ => rfl
end Lat
end Go.Proofs.Ytpffcfmhiebhdaa
