/- How a term lies in memory, away from given blocks; what keeps it. -/
import Derived.Test.YtpffcfmhiebhdaaTerms
namespace Go.Proofs.Ytpffcfmhiebhdaa
open Go.RowKit

def I64 (n : Int) : Prop := -9223372036854775808 ≤ n ∧ n ≤ 9223372036854775807

mutual
def TermV (F : List Nat) (w : World) : Term → Value → Prop
  | .mk k n s ts, v => ∃ A cap, v = .agg #[.int .i64 k, .int .i64 n, .string s, .slice A ts.length cap] ∧ I64 k ∧ I64 n ∧ s.size ≤ 1048576 ∧ ts.length ≤ 1048576 ∧
      ts.length ≤ cap ∧ cap ≤ 9223372036854775807 ∧ KidsV F w ts A 0
def KidsV (F : List Nat) (w : World) : List Term → Option Addr → Nat → Prop
  | [], _, _ => True
  | t :: ts, A, i => (∃ b off c0 c1 c2 c3, A = some ⟨b, off, none⟩ ∧ b ∉ F ∧ w.cell? ⟨b, off + i * 4, none⟩ = some c0 ∧ w.cell? ⟨b, off + i * 4 + 1, none⟩ = some c1 ∧
      w.cell? ⟨b, off + i * 4 + 2, none⟩ = some c2 ∧ w.cell? ⟨b, off + i * 4 + 3, none⟩ = some c3 ∧ TermV F w t (.agg #[c0, c1, c2, c3])) ∧ KidsV F w ts A (i + 1)
end

/-- Cells that hold a term. -/
def Term4 (F : List Nat) (w : World) (t : Term) (c0 c1 c2 c3 : Value) : Prop := TermV F w t (.agg #[c0, c1, c2, c3])

/-- What a term hangs on: the cells of blocks that are not in F. -/
theorem TermV.same (F F' : List Nat) (w w' : World) (hF : ∀ b, b ∉ F → b < w.heap.size → b ∉ F') (hw : ∀ b, b ∉ F → b < w.heap.size → w'.heap[b]? = w.heap[b]?) :
    ∀ t v, TermV F w t v → TermV F' w' t v := by
  intro t
  induction t using Term.induct with
  | h k n s ts ih =>
    intro v h
    simp only [TermV] at h ⊢
    obtain ⟨A, cap, rfl, h1, h2, h3, h4, h5, h6, h7⟩ := h
    refine ⟨A, cap, rfl, h1, h2, h3, h4, h5, h6, ?_⟩
    clear h1 h2 h3 h4 h5 h6
    generalize 0 = i at *
    induction ts generalizing i with
    | nil => simp [KidsV]
    | cons t ts ih2 =>
      simp only [KidsV] at h7 ⊢
      obtain ⟨⟨b, off, c0, c1, c2, c3, hA, hb, e0, e1, e2, e3, ht⟩, hr⟩ := h7
      have hlt := World.block_lt_of_cell? w _ e0
      have keep : ∀ o, w'.cell? ⟨b, o, none⟩ = w.cell? ⟨b, o, none⟩ := fun o => World.cell?_of_block (w := w) (a := ⟨b, o, none⟩) (hw b hb hlt)
      exact ⟨⟨b, off, c0, c1, c2, c3, hA, hF b hb hlt, by rw [keep]; exact e0, by rw [keep]; exact e1, by rw [keep]; exact e2, by rw [keep]; exact e3, ih t (by simp) _ ht⟩,
        ih2 (fun x hx => ih x (by simp [hx])) (i + 1) hr⟩

theorem KidsV.same (F F' : List Nat) (w w' : World) (hF : ∀ b, b ∉ F → b < w.heap.size → b ∉ F') (hw : ∀ b, b ∉ F → b < w.heap.size → w'.heap[b]? = w.heap[b]?) :
    ∀ ts A i, KidsV F w ts A i → KidsV F' w' ts A i := by
  intro ts
  induction ts with
  | nil => intros; simp [KidsV]
  | cons t ts ih =>
    intro A i h
    simp only [KidsV] at h ⊢
    obtain ⟨⟨b, off, c0, c1, c2, c3, hA, hb, e0, e1, e2, e3, ht⟩, hr⟩ := h
    have hlt := World.block_lt_of_cell? w _ e0
    have keep : ∀ o, w'.cell? ⟨b, o, none⟩ = w.cell? ⟨b, o, none⟩ := fun o => World.cell?_of_block (w := w) (a := ⟨b, o, none⟩) (hw b hb hlt)
    exact ⟨⟨b, off, c0, c1, c2, c3, hA, hF b hb hlt, by rw [keep]; exact e0, by rw [keep]; exact e1, by rw [keep]; exact e2, by rw [keep]; exact e3, TermV.same F F' w w' hF hw _ _ ht⟩, ih A (i + 1) hr⟩

/-- A call that let only F's blocks go: the term stands, away from F and from whatever is new. -/
theorem TermV.frm {F G : List Nat} {w w' : World} {t : Term} {v : Value} (h : TermV F w t v) (f : Frm G w w') (hG : ∀ b, b ∈ G → b ∈ F) : TermV F w' t v :=
  TermV.same F F w w' (fun _ hb _ => hb) (fun b hb hlt => f.block b hlt (fun hx => hb (hG b hx))) t v h
theorem KidsV.frm {F G : List Nat} {w w' : World} {ts : List Term} {A : Option Addr} {i : Nat} (h : KidsV F w ts A i) (f : Frm G w w') (hG : ∀ b, b ∈ G → b ∈ F) : KidsV F w' ts A i :=
  KidsV.same F F w w' (fun _ hb _ => hb) (fun b hb hlt => f.block b hlt (fun hx => hb (hG b hx))) ts A i h
/-- Away from more blocks that are new. -/
theorem TermV.away {F F' : List Nat} {w : World} {t : Term} {v : Value} (h : TermV F w t v) (hF : ∀ b, b ∈ F' → b ∈ F ∨ w.heap.size ≤ b) : TermV F' w t v :=
  TermV.same F F' w w (fun b hb hlt hx => (hF b hx).elim hb (fun hs => by omega)) (fun _ _ _ => rfl) t v h
theorem KidsV.away {F F' : List Nat} {w : World} {ts : List Term} {A : Option Addr} {i : Nat} (h : KidsV F w ts A i) (hF : ∀ b, b ∈ F' → b ∈ F ∨ w.heap.size ≤ b) : KidsV F' w ts A i :=
  KidsV.same F F' w w (fun b hb hlt hx => (hF b hx).elim hb (fun hs => by omega)) (fun _ _ _ => rfl) ts A i h
theorem TermV.keep {F : List Nat} {w w' : World} {t : Term} {v : Value} (h : TermV F w t v) (f : Frm [] w w') : TermV F w' t v := h.frm f (by simp)
theorem KidsV.keep {F : List Nat} {w w' : World} {ts : List Term} {A : Option Addr} {i : Nat} (h : KidsV F w ts A i) (f : Frm [] w w') : KidsV F w' ts A i := h.frm f (by simp)

theorem KidsV.get {F : List Nat} {w : World} : ∀ {ts : List Term} {A : Option Addr} {i : Nat}, KidsV F w ts A i → ∀ j t, ts[j]? = some t →
    ∃ b off c0 c1 c2 c3, A = some ⟨b, off, none⟩ ∧ b ∉ F ∧ w.cell? ⟨b, off + (i + j) * 4, none⟩ = some c0 ∧ w.cell? ⟨b, off + (i + j) * 4 + 1, none⟩ = some c1 ∧
      w.cell? ⟨b, off + (i + j) * 4 + 2, none⟩ = some c2 ∧ w.cell? ⟨b, off + (i + j) * 4 + 3, none⟩ = some c3 ∧ TermV F w t (.agg #[c0, c1, c2, c3])
  | [], _, _, _, j, t, hj => by simp at hj
  | x :: xs, A, i, h, 0, t, hj => by
    simp only [KidsV] at h
    simp only [List.getElem?_cons_zero, Option.some.injEq] at hj
    subst hj
    exact h.1
  | x :: xs, A, i, h, j + 1, t, hj => by
    simp only [KidsV] at h
    have := KidsV.get h.2 j t (by simpa using hj)
    rw [show i + 1 + j = i + (j + 1) by omega] at this
    exact this

theorem KidsV.of_get {F : List Nat} {w : World} (A : Option Addr) : ∀ (ts : List Term) (i : Nat), (∀ j t, ts[j]? = some t →
    ∃ b off c0 c1 c2 c3, A = some ⟨b, off, none⟩ ∧ b ∉ F ∧ w.cell? ⟨b, off + (i + j) * 4, none⟩ = some c0 ∧ w.cell? ⟨b, off + (i + j) * 4 + 1, none⟩ = some c1 ∧
      w.cell? ⟨b, off + (i + j) * 4 + 2, none⟩ = some c2 ∧ w.cell? ⟨b, off + (i + j) * 4 + 3, none⟩ = some c3 ∧ TermV F w t (.agg #[c0, c1, c2, c3])) → KidsV F w ts A i
  | [], _, _ => by simp [KidsV]
  | x :: xs, i, h => by
    simp only [KidsV]
    refine ⟨h 0 x rfl, KidsV.of_get A xs (i + 1) (fun j t hj => ?_)⟩
    have := h (j + 1) t (by simpa using hj)
    rw [show i + (j + 1) = i + 1 + j by omega] at this
    exact this

/-- The kid at place j, with its four cells opened. -/
theorem KidsV.kid {F : List Nat} {w : World} {ts : List Term} {A : Option Addr} (h : KidsV F w ts A 0) (j : Nat) (hj : j < ts.length) :
    ∃ b off A' cap, A = some ⟨b, off, none⟩ ∧ b ∉ F ∧ b < w.heap.size ∧ w.cell? ⟨b, off + j * 4, none⟩ = some (.int .i64 ts[j].kind) ∧ w.cell? ⟨b, off + j * 4 + 1, none⟩ = some (.int .i64 ts[j].n) ∧
      w.cell? ⟨b, off + j * 4 + 2, none⟩ = some (.string ts[j].s) ∧ w.cell? ⟨b, off + j * 4 + 3, none⟩ = some (.slice A' ts[j].kids.length cap) ∧
      TermV F w ts[j] (.agg #[.int .i64 ts[j].kind, .int .i64 ts[j].n, .string ts[j].s, .slice A' ts[j].kids.length cap]) := by
  obtain ⟨b, off, c0, c1, c2, c3, hA, hb, e0, e1, e2, e3, ht⟩ := h.get j ts[j] (List.getElem?_eq_getElem hj)
  generalize ts[j] = t at *
  obtain ⟨k, n, s, us⟩ := t
  have ht' := ht
  simp only [TermV] at ht
  obtain ⟨A', cap, hv, _⟩ := ht
  simp only [Value.agg.injEq, Array.mk.injEq, List.cons.injEq, and_true] at hv
  obtain ⟨rfl, rfl, rfl, rfl⟩ := hv
  simp only [Nat.zero_add] at e0 e1 e2 e3
  exact ⟨b, off, A', cap, hA, hb, World.block_lt_of_cell? w _ e0, e0, e1, e2, e3, ht'⟩

theorem TermV.mk' {F : List Nat} {w : World} {k n : Int} {s : ByteArray} {ts : List Term} {A : Option Addr} {cap : Nat} (h1 : I64 k) (h2 : I64 n) (h3 : s.size ≤ 1048576) (h4 : ts.length ≤ 1048576)
    (h5 : ts.length ≤ cap) (h6 : cap ≤ 9223372036854775807) (h7 : KidsV F w ts A 0) : TermV F w (.mk k n s ts) (.agg #[.int .i64 k, .int .i64 n, .string s, .slice A ts.length cap]) := by
  simp only [TermV]; exact ⟨A, cap, rfl, h1, h2, h3, h4, h5, h6, h7⟩
theorem TermV.leaf (F : List Nat) (w : World) {k n : Int} {s : ByteArray} (h1 : I64 k) (h2 : I64 n) (h3 : s.size ≤ 1048576) : TermV F w (.mk k n s []) (.agg #[.int .i64 k, .int .i64 n, .string s, .slice none 0 0]) :=
  TermV.mk' (ts := []) h1 h2 h3 (by simp) (by simp) (by simp) (by simp [KidsV])
theorem KidsV.lt {F : List Nat} {w : World} {ts : List Term} {A : Option Addr} (h : KidsV F w ts A 0) {a : Addr} (hA : A = some a) (hn : ts ≠ []) : a.block < w.heap.size ∧ a.block ∉ F := by
  obtain ⟨t, ts, rfl⟩ := List.exists_cons_of_ne_nil hn
  obtain ⟨b, off, c0, c1, c2, c3, hA', hb, e0, _⟩ := h.get 0 t rfl
  subst hA
  cases hA'
  exact ⟨World.block_lt_of_cell? w _ e0, hb⟩
end Go.Proofs.Ytpffcfmhiebhdaa
