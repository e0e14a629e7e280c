/- Contracts and plain laws: EvalC RefVars. -/
import Derived.Test.YtkiofaojokofbaaGreatRowCopiesA
import Derived.Test.YtkiofaojokofbaaGreatBuiltA
import Derived.Test.YtkiofaojokofbaaGreatBuiltH
import Derived.Test.YtkiofaojokofbaaGreatBuiltL
import Derived.Test.YtkiofaojokofbaaGreatBuiltC
import Derived.Lib.AppendZeros
import Derived.Laws.OwnMore
import Derived.WalkSpells
import Derived.WalkLawsBesides
import Derived.Deep.QuietTactic
import Derived.BigQuiet
import Derived.Deep.DeepCutAuto
import Derived.Deep.RegionHeld3
import Derived.Lib.Hide
import Derived.Handy
namespace Go.Proofs.YtkiofaojokofbaaGreat
open Go.RowKit

theorem parts_self (t : Term) : t ∈ t.parts := by cases t; simp [Term.parts]
theorem parts_mk {k n : Int} {s : ByteArray} {ts : List Term} {p : Term} : p ∈ (Term.mk k n s ts).parts ↔ p = .mk k n s ts ∨ ∃ x ∈ ts, p ∈ x.parts := by
  simp [Term.parts, Term.partss_eq]
theorem parts_kid {k n : Int} {s : ByteArray} {ts : List Term} {x p : Term} (hx : x ∈ ts) (hp : p ∈ x.parts) : p ∈ (Term.mk k n s ts).parts := parts_mk.2 (.inr ⟨x, hx, hp⟩)
theorem deep_mem : ∀ {ts : List Term} {x : Term}, x ∈ ts → x.deep ≤ Term.deeps ts
  | t :: ts, x, h => by
    simp only [Term.deeps]
    rcases List.mem_cons.1 h with rfl | h
    · omega
    · have := deep_mem h; omega
theorem fillTs_id {f : Int → Int → Term → Term × Int × Int} : ∀ (ts : List Term) (l : Int), (∀ t ∈ ts, ∀ l : Int, (t.size : Int) ≤ l → l ≤ 1000 → f l 0 t = (t, l - t.size, 0)) → (Term.sizes ts : Int) ≤ l → l ≤ 1000 → PStore.fillTs f l 0 ts = (ts, l - Term.sizes ts, 0)
  | [], l, _, _, _ => by simp [PStore.fillTs, Term.sizes]
  | t :: ts, l, h, h1, h2 => by
    simp only [Term.sizes] at h1 ⊢
    have ht := h t (by simp) l (by omega) h2
    have hr := fillTs_id ts (l - t.size) (fun x hx => h x (by simp [hx])) (by omega) (by omega)
    simp only [PStore.fillTs, ht, hr]
    refine Prod.ext rfl (Prod.ext ?_ rfl)
    show l - t.size - Term.sizes ts = l - ((t.size + Term.sizes ts : Nat) : Int)
    omega
theorem fill_walk {s : PStore} {t u : Term} (h : s.walk t = s.walk u) (d : Nat) (deep l e : Int) : s.fillT d deep l e t = s.fillT d deep l e u := by cases d <;> simp [PStore.fillT, h]
theorem fill_id (s : PStore) : ∀ (t : Term) (d : Nat) (deep l : Int), (∀ p ∈ t.parts, s.next p = none) → t.deep ≤ d → 0 ≤ deep → deep + t.deep ≤ 61 → (t.size : Int) ≤ l → l ≤ 1000 → s.fillT d deep l 0 t = (t, l - t.size, 0) := by
  intro t
  induction t using Term.induct with
  | h k n z ts ih =>
    intro d deep l hn hd h0 hdp hs hl
    have hw : s.walk (.mk k n z ts) = .mk k n z ts := PStore.walk_free (hn _ (parts_self _))
    have hsz : (Term.mk k n z ts).size = 1 + Term.sizes ts := by simp [Term.size]
    have hdd : (Term.mk k n z ts).deep = 1 + Term.deeps ts := by simp [Term.deep]
    obtain ⟨d, rfl⟩ : ∃ d', d = d' + 1 := ⟨d - 1, by omega⟩
    have hwr : wrap64 (l - 1) = l - 1 := by unfold wrap64; omega
    rw [PStore.fillT_ok (by omega) (by omega), hw, hwr]
    dsimp only [Term.kind, Term.n, Term.s, Term.kids]
    rw [fillTs_id ts (l - 1) (fun x hx l2 h1 h2 => ih x hx d (deep + 1) l2 (fun p hp => hn p (parts_kid hx hp)) (by have := deep_mem hx; omega) (by omega) (by have := deep_mem hx; omega) h1 h2) (by omega) (by omega)]
    refine Prod.ext rfl (Prod.ext ?_ rfl)
    show l - 1 - Term.sizes ts = l - ((Term.mk k n z ts).size : Int)
    omega
theorem full_id {s : PStore} {t u : Term} (h : s.walk t = u) (hn : ∀ p ∈ u.parts, s.next p = none) (hd : u.deep ≤ 60) (hs : u.size ≤ 1000) : s.full t = (u, 0) := by
  have hf := fill_id s u 61 1 1000 hn (by omega) (by omega) (by omega) (by omega) (by omega)
  have hw : s.walk t = s.walk u := by rw [h, PStore.walk_free (hn u (parts_self u))]
  unfold PStore.full
  rw [fill_walk hw, hf, if_pos rfl]
theorem anyS_no {f : List Int → Term → Option (Bool × List Int)} : ∀ (ts : List Term) (seen : List Int), (∀ t ∈ ts, ∀ seen, f seen t = some (false, seen)) → PStore.anyS f seen ts = some (false, seen)
  | [], seen, _ => rfl
  | t :: ts, seen, h => by
    unfold PStore.anyS
    rw [h t (by simp) seen]
    exact anyS_no ts seen (fun x hx => h x (by simp [hx]))
theorem inF_no (s : PStore) (v : Int) : ∀ (t : Term) (d : Nat) (seen : List Int), (∀ p ∈ t.parts, s.next p = none ∧ ¬ (p.kind = 1 ∧ p.n = v)) → t.deep ≤ d → s.inF v d seen t = some (false, seen) := by
  intro t
  induction t using Term.induct with
  | h k n z ts ih =>
    intro d seen hn hd
    have hdd : (Term.mk k n z ts).deep = 1 + Term.deeps ts := by simp [Term.deep]
    obtain ⟨d, rfl⟩ : ∃ d', d = d' + 1 := ⟨d - 1, by omega⟩
    have h0 := hn _ (parts_self _)
    have hr : s.run seen (.mk k n z ts) = (some (.mk k n z ts), seen) := PStore.runF_stop h0.1 _ _
    unfold PStore.inF
    rw [hr]
    dsimp only
    split
    · rename_i h1
      rw [decide_eq_false (fun e => h0.2 ⟨h1, e⟩)]
    split
    · rfl
    · exact anyS_no ts seen (fun x hx sn => ih x hx d sn (fun p hp => hn p (parts_kid hx hp)) (by have := deep_mem hx; omega))
theorem has_no {s : PStore} {v : Int} {t : Term} (h : ∀ p ∈ t.parts, s.next p = none ∧ ¬ (p.kind = 1 ∧ p.n = v)) : s.has t v false := ⟨t.deep, [], inF_no s v t _ _ h (Nat.le_refl _)⟩

namespace Term
theorem ren_parts (f : Int → Int) : ∀ (t p : Term), p ∈ (t.ren f).parts → ∃ q ∈ t.parts, p = q.ren f := by
  intro t
  induction t using Term.induct with
  | h k n s ts ih =>
    intro p hp
    rw [ren_mk, parts_mk] at hp
    rcases hp with rfl | ⟨x, hx, hp⟩
    · exact ⟨_, parts_self _, by rw [ren_mk]⟩
    · obtain ⟨y, hy, rfl⟩ := List.mem_map.1 hx
      obtain ⟨q, h1, h2⟩ := ih y hy p hp
      exact ⟨q, parts_kid hy h1, h2⟩
theorem ren_kind (f : Int → Int) (t : Term) : (t.ren f).kind = t.kind := by cases t; rw [ren_mk]; rfl
theorem ren_n (f : Int → Int) {t : Term} (h : t.kind = 1) : (t.ren f).n = f t.n := by cases t; rw [ren_mk]; simp only [kind] at h; simp [n, h]
theorem ren_size (f : Int → Int) : ∀ t : Term, (t.ren f).size = t.size := by
  intro t
  induction t using Term.induct with
  | h k n s ts ih =>
    rw [ren_mk]
    simp only [size, sizes_eq, List.map_map]
    rw [List.map_congr_left (f := size ∘ ren f) (g := size) (fun x hx => ih x hx)]
theorem ren_deep (f : Int → Int) : ∀ t : Term, (t.ren f).deep = t.deep := by
  intro t
  induction t using Term.induct with
  | h k n s ts ih =>
    rw [ren_mk]
    simp only [deep]
    congr 1
    clear k n s
    induction ts with
    | nil => rfl
    | cons x xs ih2 => simp only [List.map_cons, deeps]; rw [ih x (by simp), ih2 (fun y hy => ih y (by simp [hy]))]
theorem ren_ren (f g : Int → Int) : ∀ t : Term, (t.ren f).ren g = t.ren fun x => g (f x) := by
  intro t
  induction t using Term.induct with
  | h k n s ts ih =>
    rw [ren_mk, ren_mk, ren_mk, List.map_map, List.map_congr_left (f := ren g ∘ ren f) (g := ren fun x => g (f x)) (fun x hx => ih x hx)]
    congr 1
    split <;> rfl
theorem ren_none (f : Int → Int) : ∀ t : Term, (∀ p ∈ t.parts, p.kind ≠ 1) → t.ren f = t := by
  intro t
  induction t using Term.induct with
  | h k n s ts ih =>
    intro h
    rw [ren_mk, if_neg (show ¬ k = 1 from h _ (parts_self _))]
    congr 1
    conv => rhs; rw [← List.map_id ts]
    exact List.map_congr_left (fun x hx => ih x hx (fun p hp => h p (parts_kid hx hp)))
theorem ren_erase (f : Int → Int) : ∀ t : Term, (t.ren f).erase = t.erase.ren f := by
  intro t
  induction t using Term.induct with
  | h k n s ts ih =>
    rw [ren_mk]
    by_cases h : k = 4 ∧ ts.length = 1
    · obtain ⟨rfl, h⟩ := h
      obtain ⟨x, rfl⟩ := List.length_eq_one_iff.1 h
      exact ih x (by simp)
    · rw [erase_else (by simpa using h), erase_else h, ren_mk, List.map_map, List.map_map]
      congr 1
      exact List.map_congr_left (fun x hx => ih x hx)
end Term

theorem parts_trans : ∀ (t p q : Term), p ∈ t.parts → q ∈ p.parts → q ∈ t.parts := by
  intro t
  induction t using Term.induct with
  | h k n s ts ih =>
    intro p q hp hq
    rcases parts_mk.1 hp with rfl | ⟨y, hy, hp⟩
    · exact hq
    · exact parts_kid hy (ih y hy p q hp hq)
theorem kid_part {t x : Term} (h : x ∈ t.kids) : x ∈ t.parts := by
  obtain ⟨k, n, s, ts⟩ := t
  exact parts_kid h (parts_self x)
def Fair (p : Term) : Prop := (p.kind = 2 ∧ p.kids = []) ∨ p.kind = 3 ∨ (p.kind = 4 ∧ ∃ x, p.kids = [x])
/-- A term without variables. -/
def Shut (t : Term) : Prop := ∀ p ∈ t.parts, Fair p
/-- The variables are among some; what is sealed has none. -/
def Good (vs : List Int) (t : Term) : Prop := ∀ p ∈ t.parts, (∃ x, x ∈ vs ∧ p = Term.var x) ∨ (Fair p ∧ (p.kind = 4 → Shut p))
theorem Good.part {vs : List Int} {t x : Term} (h : Good vs t) (hx : x ∈ t.parts) : Good vs x := fun p hp => h p (parts_trans t x p hx hp)
theorem Shut.part {t x : Term} (h : Shut t) (hx : x ∈ t.parts) : Shut x := fun p hp => h p (parts_trans t x p hx hp)
theorem Shut.good {vs : List Int} {t : Term} (h : Shut t) : Good vs t := fun p hp => .inr ⟨h p hp, fun _ => h.part hp⟩
theorem Shut.wf {t : Term} (h : Shut t) : t.WF := fun p hp h4 => by
  rcases h p hp with h1 | h1 | h1
  · exact absurd h4 (by rw [h1.1]; decide)
  · exact absurd h4 (by rw [h1]; decide)
  · exact h1.2
theorem Good.wf {vs : List Int} {t : Term} (h : Good vs t) : t.WF := fun p hp h4 => by
  rcases h p hp with ⟨x, _, rfl⟩ | ⟨h1 | h1 | h1, _⟩
  · exact absurd h4 (by simp [Term.var, Term.kind])
  · exact absurd h4 (by rw [h1.1]; decide)
  · exact absurd h4 (by rw [h1]; decide)
  · exact h1.2
theorem Shut.not_var {t : Term} (h : Shut t) : ∀ p ∈ t.parts, p.kind ≠ 1 := fun p hp e => by
  rcases h p hp with h1 | h1 | h1
  · rw [h1.1] at e; cases e
  · rw [h1] at e; cases e
  · rw [h1.1] at e; cases e
theorem Shut.put {t : Term} (h : Shut t) (q : Int) : Shut (t.put q) := fun p hp => by
  rcases parts_mk.1 hp with rfl | ⟨x, hx, hp⟩
  · exact .inr (.inr ⟨rfl, t, rfl⟩)
  · rw [List.mem_singleton.1 hx] at hp; exact h p hp
theorem peel_part (l : Lat) : ∀ (t : Term) (a : Int), (l.peel a t).1 ∈ t.parts := by
  intro t
  induction t using Term.induct with
  | h k n s ts ih =>
    intro a
    cases hs : (Term.mk k n s ts).sealOf
    · rw [Lat.peel_else _ _ _ hs]; exact parts_self _
    · obtain ⟨rfl, x, rfl⟩ := Term.sealOf_true hs
      rw [Lat.peel_seal]
      exact parts_kid (by simp) (ih x (by simp) _)
theorem opened_shut {t : Term} (h : Shut t) : ∃ k n s ts q, Lat.nine.opened t = (.mk k n s ts, q) ∧ (k = 2 ∨ k = 3) ∧ t.erase = .mk k n s (ts.map Term.erase) ∧ ∀ x ∈ ts, Shut x := by
  obtain ⟨k, n, s, ts, q, h1, h2, h3, -, -, -⟩ := opened_facts t h.wf
  have hk : (k = 2 ∨ k = 3) ∧ ∀ x ∈ ts, Shut x := by
    unfold Lat.opened at h1
    split at h1
    · have hp := peel_part Lat.nine t Lat.nine.bottom
      have hs := h.part hp
      have hf := h _ hp
      dsimp only at h1
      simp only [Prod.mk.injEq, Term.mk.injEq] at h1
      obtain ⟨⟨rfl, -, -, rfl⟩, -⟩ := h1
      refine ⟨?_, fun x hx => ?_⟩
      · rcases hf with h5 | h5 | h5
        · exact .inl h5.1
        · exact .inr h5
        · exact absurd h5.1 h2
      · obtain ⟨z, hz, rfl⟩ := List.mem_map.1 hx
        exact (hs.part (kid_part hz)).put _
    · simp only [Prod.mk.injEq] at h1
      obtain ⟨rfl, -⟩ := h1
      refine ⟨?_, fun x hx => h.part (kid_part hx)⟩
      rcases h _ (parts_self _) with h5 | h5 | h5
      · exact .inl h5.1
      · exact .inr h5
      · exact absurd h5.1 h2
  exact ⟨k, n, s, ts, q, h1, hk.1, h3, hk.2⟩

/-- The state of two copies that are made one. -/
def Copies (vs : List Int) (f g : Int → Int) (s : PStore) : Prop :=
  ∀ x ∈ vs, s.get (g x) = none ∧ 0 ≤ f x ∧ (s.cells[(f x).toNat]? = some none ∨ s.cells[(f x).toNat]? = some (some (Term.var (g x))))
theorem walk_unbound {s : PStore} {n : Int} (h : s.get n = none) : s.walk (Term.var n) = Term.var n := PStore.walk_free (by rw [Term.var, PStore.next_var]; exact h)
theorem get_at {s : PStore} {n : Int} {o : Option Term} (h0 : 0 ≤ n) (h : s.cells[n.toNat]? = some o) : s.get n = o := by
  unfold PStore.get
  rw [if_pos h0, h]
  rfl
theorem walk_bound {s : PStore} {n : Int} {u : Term} (h : s.get n = some u) (hu : s.next u = none) : s.walk (Term.var n) = u := by
  have h1 : s.next (Term.var n) = some u := by rw [Term.var, PStore.next_var]; exact h
  have h3 : s.walkN 1 (Term.var n) = u := by rw [PStore.walkN_some h1]; rfl
  rw [PStore.walk_eq (k := 1) (by rw [h3]; exact hu), h3]
theorem Copies.bind {vs : List Int} {f g : Int → Int} {s : PStore} (h : Copies vs f g s) (hi : ∀ x ∈ vs, ∀ y ∈ vs, f x = f y → x = y) (hd : ∀ x ∈ vs, ∀ y ∈ vs, f x ≠ g y) {x : Int} (hx : x ∈ vs) (hf : s.cells[(f x).toNat]? = some none) :
    Copies vs f g (s.bind (f x).toNat (Term.var (g x))) := by
  have hx0 := (h x hx).2.1
  intro y hy
  obtain ⟨h1, h2, h3⟩ := h y hy
  refine ⟨?_, h2, ?_⟩
  · unfold PStore.get at h1 ⊢
    split
    · rename_i h0
      rw [if_pos h0] at h1
      show ((s.cells.set _ _)[(g y).toNat]?).join = none
      rw [List.getElem?_set_ne (fun e => hd x hx y hy (by omega))]
      exact h1
    · rfl
  · show (s.cells.set _ _)[(f y).toNat]? = _ ∨ (s.cells.set _ _)[(f y).toNat]? = _
    by_cases e : (f x).toNat = (f y).toNat
    · have hxy := hi x hx y hy (by omega)
      subst hxy
      exact .inr (by rw [List.getElem?_set_self (List.getElem?_eq_some_iff.1 hf).1])
    · rw [List.getElem?_set_ne e]
      exact h3
theorem zip_same {f g : Int → Int} (ts : List Term) : (ts.map (Term.ren f)).zip (ts.map (Term.ren g)) = ts.map fun u => (u.ren f, u.ren g) := by
  induction ts with
  | nil => rfl
  | cons t ts ih => simp [ih]
theorem zip_shut {f g : Int → Int} {ts : List Term} (h : ∀ x ∈ ts, Shut x) : ts.zip ts = ts.map fun u => (u.ren f, u.ren g) := by
  induction ts with
  | nil => rfl
  | cons t ts ih =>
    simp only [List.zip_cons_cons, List.map_cons]
    rw [ih (fun x hx => h x (by simp [hx])), Term.ren_none f t (h t (by simp)).not_var, Term.ren_none g t (h t (by simp)).not_var]
theorem next_none {s : PStore} {t : Term} (h : t.kind ≠ 1) : s.next t = none := by unfold PStore.next; rw [if_neg h]
theorem bindP_none {s : PStore} {a b : Term} (ha : a.kind ≠ 1) (hb : b.kind ≠ 1) : s.bindP a b = (false, false, s) := by
  unfold PStore.bindP
  rw [if_neg (fun h => ha h.1), if_neg ha, if_neg hb]
theorem matchF_int {l : Lat} {k : Nat} {s : PStore} {p : Term × Term} {rest : List (Term × Term)} {lev : Int} {a b : Term × Int} (hp : s.bindP (s.walk p.1) (s.walk p.2) = (false, false, s)) (ha : l.opened (s.walk p.1) = a) (hb : l.opened (s.walk p.2) = b)
    (h : a.1.kind = 2 ∧ b.1.kind = 2 ∧ a.1.n = b.1.n) : PStore.matchF l (k + 1) s (p :: rest) lev = PStore.matchF l k s rest (l.join lev (l.join a.2 b.2)) := by
  rw [PStore.matchF, hp, ha, hb, if_neg (by simp), if_pos h]
theorem matchF_fun {l : Lat} {k : Nat} {s : PStore} {p : Term × Term} {rest : List (Term × Term)} {lev : Int} {a b : Term × Int} (hp : s.bindP (s.walk p.1) (s.walk p.2) = (false, false, s)) (ha : l.opened (s.walk p.1) = a) (hb : l.opened (s.walk p.2) = b)
    (h : a.1.kind = 3 ∧ b.1.kind = 3 ∧ a.1.s.toList = b.1.s.toList ∧ a.1.kids.length = b.1.kids.length) : PStore.matchF l (k + 1) s (p :: rest) lev = PStore.matchF l k s (a.1.kids.zip b.1.kids ++ rest) (l.join lev (l.join a.2 b.2)) := by
  rw [PStore.matchF, hp, ha, hb, if_neg (by simp), if_neg (fun x => by have := x.1; omega), if_pos h]
theorem matchF_bind {l : Lat} {k : Nat} {s s' : PStore} {p : Term × Term} {rest : List (Term × Term)} {lev : Int} (hp : s.bindP (s.walk p.1) (s.walk p.2) = (true, true, s')) :
    PStore.matchF l (k + 1) s (p :: rest) lev = PStore.matchF l k s' rest lev := by
  rw [PStore.matchF, hp, if_pos rfl, if_pos rfl]
theorem match_copies (vs : List Int) (f g : Int → Int) (hi : ∀ x ∈ vs, ∀ y ∈ vs, f x = f y → x = y) (hd : ∀ x ∈ vs, ∀ y ∈ vs, f x ≠ g y) : ∀ (k : Nat) (s : PStore) (us : List Term) (lev : Int), Copies vs f g s → (∀ u ∈ us, Good vs u) →
    (us.map fun u => u.erase.size).sum ≤ k → ∃ lev' s', PStore.matchF Lat.nine k s (us.map fun u => (u.ren f, u.ren g)) lev = (true, lev', 0, s')
  | k, s, [], lev, _, _, _ => ⟨lev, s, PStore.matchF_nil _ _ _ _⟩
  | 0, s, u :: us, lev, _, _, h => by have := Term.size_pos u.erase; simp at h; omega
  | k + 1, s, u :: us, lev, hc, hu, hk => by
    have hus : ∀ x ∈ us, Good vs x := fun x hx => hu x (by simp [hx])
    have hg := hu u (by simp)
    simp only [List.map_cons, List.sum_cons] at hk
    rw [List.map_cons]
    rcases hg u (parts_self u) with ⟨x, hx, rfl⟩ | ⟨hfair, hseal⟩
    · obtain ⟨h1, h2, h3⟩ := hc x hx
      have hk' : (us.map fun u => u.erase.size).sum ≤ k := by have := Term.size_pos (Term.var x).erase; omega
      have e1 : (Term.var x).ren f = Term.var (f x) := by rw [Term.var, Term.ren_mk]; rfl
      have e2 : (Term.var x).ren g = Term.var (g x) := by rw [Term.var, Term.ren_mk]; rfl
      have hgn : s.next (Term.var (g x)) = none := by rw [Term.var, PStore.next_var]; exact h1
      rcases h3 with h3 | h3
      · have hne : f x ≠ g x := hd x hx x hx
        have hb : s.bindP (s.walk ((Term.var x).ren f)) (s.walk ((Term.var x).ren g)) = (true, true, s.bind (f x).toNat (Term.var (g x))) := by
          rw [e1, e2, walk_unbound h1, walk_unbound (get_at h2 h3)]
          unfold PStore.bindP
          rw [if_neg (fun h => hne h.2.2), if_pos (show (Term.var (f x)).kind = 1 from rfl)]
          show (true, (s.bindF (f x) (Term.var (g x))).1 == 0, (s.bindF (f x) (Term.var (g x))).2) = _
          have hbb : s.Binds (f x) (Term.var (g x)) 0 (s.bind (f x).toNat (Term.var (g x))) := .inr (.inr (.inr ⟨rfl, rfl, h2, h3, has_no (fun p hp => by
            rcases parts_mk.1 hp with rfl | ⟨y, hy, _⟩
            · exact ⟨hgn, fun e => hne e.2.symm⟩
            · cases hy)⟩))
          rw [bindF_eq hbb]
          rfl
        rw [matchF_bind hb]
        exact match_copies vs f g hi hd k _ us lev (hc.bind hi hd hx h3) hus hk'
      · have hb : s.bindP (s.walk ((Term.var x).ren f)) (s.walk ((Term.var x).ren g)) = (true, true, s) := by
          rw [e1, e2, walk_unbound h1, walk_bound (get_at h2 h3) hgn]
          unfold PStore.bindP; rw [if_pos ⟨rfl, rfl, rfl⟩]
        rw [matchF_bind hb]
        exact match_copies vs f g hi hd k s us lev hc hus hk'
    · have hnv : u.kind ≠ 1 := by
        intro e
        rcases hfair with h1 | h1 | h1
        · rw [h1.1] at e; cases e
        · rw [h1] at e; cases e
        · rw [h1.1] at e; cases e
      have hn : ∀ h, (u.ren h).kind ≠ 1 := fun h => by rw [Term.ren_kind]; exact hnv
      have hw : ∀ h, s.walk (u.ren h) = u.ren h := fun h => PStore.walk_free (next_none (hn h))
      have hb : s.bindP (s.walk (u.ren f)) (s.walk (u.ren g)) = (false, false, s) := by rw [hw, hw, bindP_none (hn f) (hn g)]
      by_cases h4 : u.kind = 4
      · have hs := hseal h4
        obtain ⟨k1, n1, s1, ts, q, o1, o2, o3, o4⟩ := opened_shut hs
        have hsz : u.erase.size = 1 + ((ts.map fun u => u.erase.size).sum) := by
          rw [o3]; simp only [Term.size, Term.sizes_eq, List.map_map]; rfl
        have oo : ∀ h, Lat.nine.opened (s.walk (u.ren h)) = (.mk k1 n1 s1 ts, q) := fun h => by rw [hw, Term.ren_none h u hs.not_var, o1]
        rcases o2 with rfl | rfl
        · rw [matchF_int hb (oo f) (oo g) ⟨rfl, rfl, rfl⟩]
          exact match_copies vs f g hi hd k s us _ hc hus (by omega)
        · rw [matchF_fun hb (oo f) (oo g) ⟨rfl, rfl, rfl, rfl⟩]
          show ∃ lev' s', PStore.matchF Lat.nine k s (ts.zip ts ++ _) _ = _
          rw [zip_shut (f := f) (g := g) o4, ← List.map_append]
          exact match_copies vs f g hi hd k s (ts ++ us) _ hc (fun x hx => (List.mem_append.1 hx).elim (fun h => (o4 x h).good) (hus x)) (by rw [List.map_append, List.sum_append]; omega)
      · obtain ⟨k1, n1, s1, ts⟩ := u
        have hnv' : k1 ≠ 1 := hnv
        have h4' : k1 ≠ 4 := h4
        have oo : ∀ h, Lat.nine.opened (s.walk ((Term.mk k1 n1 s1 ts).ren h)) = (.mk k1 n1 s1 (ts.map (Term.ren h)), Lat.nine.bottom) := fun h => by
          rw [hw, Term.ren_mk, if_neg hnv']
          unfold Lat.opened
          rw [if_neg]
          simp [Term.sealOf, Term.kind, h4']
        have hsz : (Term.mk k1 n1 s1 ts).erase.size = 1 + ((ts.map fun u => u.erase.size).sum) := by
          rw [Term.erase_else (fun h => h4' h.1)]; simp only [Term.size, Term.sizes_eq, List.map_map]; rfl
        rcases hfair with h1 | h1 | h1
        · have h2 : k1 = 2 := h1.1
          subst h2
          rw [matchF_int (a := (.mk 2 n1 s1 (ts.map (Term.ren f)), Lat.nine.bottom)) (b := (.mk 2 n1 s1 (ts.map (Term.ren g)), Lat.nine.bottom)) hb (oo f) (oo g) ⟨rfl, rfl, rfl⟩]
          exact match_copies vs f g hi hd k s us _ hc hus (by omega)
        · have h2 : k1 = 3 := h1
          subst h2
          rw [matchF_fun (a := (.mk 3 n1 s1 (ts.map (Term.ren f)), Lat.nine.bottom)) (b := (.mk 3 n1 s1 (ts.map (Term.ren g)), Lat.nine.bottom)) hb (oo f) (oo g) ⟨rfl, rfl, rfl, by simp [Term.kids]⟩]
          show ∃ lev' s', PStore.matchF Lat.nine k s ((ts.map (Term.ren f)).zip (ts.map (Term.ren g)) ++ _) _ = _
          rw [zip_same, ← List.map_append]
          exact match_copies vs f g hi hd k s (ts ++ us) _ hc (fun x hx => (List.mem_append.1 hx).elim (fun h => hg.part (kid_part h)) (hus x)) (by rw [List.map_append, List.sum_append]; omega)
        · exact absurd h1.1 h4
theorem bareL_zero {r1 r2 : Term → Term} : ∀ (ts : List Term), bareL (ts.map r1) (ts.map r2) = 0 → ∀ x ∈ ts, bareF (r1 x) (r2 x) = 0
  | t :: ts, h, x, hx => by
    simp only [List.map_cons, bareL] at h
    by_cases e : bareF (r1 t) (r2 t) = 0
    · rw [if_pos e] at h
      rcases List.mem_cons.1 hx with rfl | hx
      · exact e
      · exact bareL_zero ts h x hx
    · rw [if_neg e] at h; exact absurd h e
theorem bareF_mk (k n : Int) (s : ByteArray) (ts : List Term) (k2 n2 : Int) (s2 : ByteArray) (us : List Term) : bareF (.mk k n s ts) (.mk k2 n2 s2 us) = if bare0 k n s ts.length k2 n2 s2 us.length = 0 ∧ k ≠ 1 ∧ k ≠ 2 then bareL ts us else bare0 k n s ts.length k2 n2 s2 us.length := by
  rw [bareF]; rfl
theorem bare_ren (f g : Int → Int) : ∀ u : Term, bareF (u.ren f) (u.ren g) = 0 → (∀ p ∈ u.parts, p.kind = 1 ∨ p.kind = 2 → p.kids = []) → ∀ p ∈ u.parts, p.kind = 1 → f p.n = g p.n := by
  intro u
  induction u using Term.induct with
  | h k n s ts ih =>
    intro h hk p hp h1
    have hks := hk _ (parts_self _)
    simp only [Term.kind, Term.kids] at hks
    rw [Term.ren_mk, Term.ren_mk, bareF_mk] at h
    by_cases hk1 : k = 1
    · subst hk1
      rw [if_neg (fun x => x.2.1 rfl), bare0] at h
      skip
      rw [if_pos ⟨rfl, .inl rfl⟩, cmpI_zero, if_pos rfl, if_pos rfl] at h
      rcases parts_mk.1 hp with rfl | ⟨x, hx, _⟩
      · exact h
      · rw [hks (.inl rfl)] at hx; cases hx
    · rcases parts_mk.1 hp with rfl | ⟨x, hx, hp⟩
      · exact absurd h1 hk1
      · have hk2 : k ≠ 2 := fun e => by rw [hks (.inr e)] at hx; cases hx
        rw [if_neg hk1, if_neg hk1] at h
        split at h
        · exact ih x hx (bareL_zero ts h x hx) (fun q hq => hk q (parts_kid hx hq)) p hp h1
        · rename_i hc
          exact absurd ⟨h, hk1, hk2⟩ hc
theorem erase_part : ∀ (t p : Term), p ∈ t.erase.parts → ∃ q ∈ t.parts, p = q.erase ∧ q.kind = p.kind := by
  intro t
  induction t using Term.induct with
  | h k n s ts ih =>
    intro p hp
    by_cases h : k = 4 ∧ ts.length = 1
    · obtain ⟨rfl, h⟩ := h
      obtain ⟨x, rfl⟩ := List.length_eq_one_iff.1 h
      obtain ⟨q, h1, h2⟩ := ih x (by simp) p hp
      exact ⟨q, parts_kid (by simp) h1, h2⟩
    · rw [Term.erase_else h] at hp
      rcases parts_mk.1 hp with rfl | ⟨y, hy, hp⟩
      · exact ⟨_, parts_self _, (Term.erase_else h).symm, rfl⟩
      · obtain ⟨x, hx, rfl⟩ := List.mem_map.1 hy
        obtain ⟨q, h1, h2⟩ := ih x hx p hp
        exact ⟨q, parts_kid hx h1, h2⟩
theorem part_erase : ∀ (t q : Term), q ∈ t.parts → q.erase ∈ t.erase.parts := by
  intro t
  induction t using Term.induct with
  | h k n s ts ih =>
    intro q hq
    rcases parts_mk.1 hq with rfl | ⟨x, hx, hq⟩
    · exact parts_self _
    · by_cases h : k = 4 ∧ ts.length = 1
      · obtain ⟨rfl, h⟩ := h
        obtain ⟨y, rfl⟩ := List.length_eq_one_iff.1 h
        rename q ∈ x.parts => hqx
        rw [List.mem_singleton.1 hx] at hqx
        exact ih y (by simp) q hqx
      · rw [Term.erase_else h]
        exact parts_kid (List.mem_map.2 ⟨x, hx, rfl⟩) (ih x hx q hq)
theorem erase_size : ∀ t : Term, t.erase.size ≤ t.size := by
  intro t
  induction t using Term.induct with
  | h k n s ts ih =>
    by_cases h : k = 4 ∧ ts.length = 1
    · obtain ⟨rfl, h⟩ := h
      obtain ⟨x, rfl⟩ := List.length_eq_one_iff.1 h
      have := ih x (by simp)
      simp only [Term.erase_seal, Term.size, Term.sizes]; omega
    · rw [Term.erase_else h]
      simp only [Term.size]
      have : ∀ l : List Term, (∀ x ∈ l, x.erase.size ≤ x.size) → Term.sizes (l.map Term.erase) ≤ Term.sizes l := by
        intro l
        induction l with
        | nil => intro _; simp [Term.sizes]
        | cons x xs ih2 => intro hl; have h1 := hl x (by simp); have h2 := ih2 (fun y hy => hl y (by simp [hy])); simp only [List.map_cons, Term.sizes]; omega
      have := this ts ih
      omega
theorem mem_vars {t p : Term} (hp : p ∈ t.parts) (h1 : p.kind = 1) : p.n ∈ t.vars := by
  have key : ∀ (ps : List Term) (l : List Int), (∀ n ∈ l, n ∈ ps.foldl Term.addVar l) ∧ ∀ p ∈ ps, p.kind = 1 → p.n ∈ ps.foldl Term.addVar l := by
    intro ps
    induction ps with
    | nil => intro l; exact ⟨fun n h => h, fun p h => by cases h⟩
    | cons q qs ih =>
      intro l
      obtain ⟨i1, i2⟩ := ih (Term.addVar l q)
      have hl : ∀ n ∈ l, n ∈ Term.addVar l q := fun n h => by unfold Term.addVar; split <;> simp [h]
      refine ⟨fun n h => i1 n (hl n h), fun p hp h1 => ?_⟩
      rcases List.mem_cons.1 hp with rfl | hp
      · refine i1 _ ?_
        unfold Term.addVar
        by_cases e : p.n ∈ l
        · simp [h1, e]
        · simp [h1, e]
      · exact i2 p hp h1
  exact (key t.parts []).2 p hp h1
theorem beq_empty {s : ByteArray} (h : (s == ByteArray.empty) = true) : s = ByteArray.empty := by
  obtain ⟨d⟩ := s
  have h' : (d == #[]) = true := h
  rw [eq_of_beq h']; rfl
theorem check_good {t : Term} (h : t.check 9 = 0) : Good t.vars t := by
  have ha := check_alone h
  have hf : ∀ p, Term.alone 9 p = true → (p.kind = 1 → p = Term.var p.n) ∧ (p.kind ≠ 1 → Fair p) := by
    intro p hp
    obtain ⟨k, n, s, ts⟩ := p
    refine ⟨fun h1 => ?_, fun h1 => ?_⟩
    · have h1' : k = 1 := h1
      subst h1'
      have hs : s = ByteArray.empty ∧ ts = [] := by
        unfold Term.alone at hp
        simp [Term.kind, Term.s, Term.kids, Term.n] at hp
        exact ⟨beq_empty hp.1.2, hp.2⟩
      obtain ⟨rfl, rfl⟩ := hs
      rfl
    · rcases alone_kind hp with h2 | h2 | h2 | h2
      · exact absurd h2 h1
      · refine .inl ⟨h2, ?_⟩
        have h2' : k = 2 := h2
        subst h2'
        unfold Term.alone at hp
        simp [Term.kind, Term.s, Term.kids] at hp
        exact hp.2
      · exact .inr (.inl h2)
      · exact .inr (.inr h2)
  intro p hp
  have hpa := hf p (ha p hp)
  by_cases h1 : p.kind = 1
  · exact .inl ⟨p.n, mem_vars hp h1, hpa.1 h1⟩
  · refine .inr ⟨hpa.2 h1, fun h4 q hq => ?_⟩
    have hqa := hf q (ha q (parts_trans t p q hp hq))
    refine hqa.2 fun e => ?_
    have hal := ha p hp
    obtain ⟨k, n, s, ts⟩ := p
    have h4' : k = 4 := h4
    subst h4'
    match ts with
    | [] => simp [Term.alone, Term.kind, Term.kids] at hal
    | [x] =>
      have hx : x.vars.length = 0 := by
        unfold Term.alone at hal
        simp [Term.kind, Term.s, Term.kids] at hal
        simp [hal.2]
      rcases parts_mk.1 hq with rfl | ⟨y, hy, hq⟩
      · cases e
      · rw [List.mem_singleton.1 hy] at hq
        have := mem_vars hq e
        rw [List.length_eq_zero_iff.1 hx] at this
        cases this
    | x :: y :: r => simp [Term.alone, Term.kind, Term.kids] at hal

theorem get_bind {s : PStore} {v : Nat} (h : v < s.cells.length) (t : Term) (x : Int) : (s.bind v t).get x = if x = v then some t else s.get x := by
  unfold PStore.get
  by_cases h0 : 0 ≤ x
  · rw [if_pos h0, if_pos h0]
    show ((s.cells.set v (some t))[x.toNat]?).join = _
    by_cases e : x = v
    · subst e
      rw [if_pos rfl, Int.toNat_natCast, List.getElem?_set_self h]
      rfl
    · rw [if_neg e, List.getElem?_set_ne (fun e2 => e (by omega))]
  · rw [if_neg h0, if_neg h0, if_neg (by omega)]
theorem cell_get {s : PStore} {m : Nat} (h : s.get m = none) (hm : m < s.cells.length) : s.cells[m]? = some none := by
  unfold PStore.get at h
  rw [if_pos (by omega), Int.toNat_natCast, List.getElem?_eq_getElem hm] at h
  rw [List.getElem?_eq_getElem hm]
  exact congrArg some h
theorem next_of {s : PStore} {vs : List Int} {t : Term} (hv : ∀ p ∈ t.parts, p.kind = 1 → p.n ∈ vs) (h : ∀ x ∈ vs, s.get x = none) : ∀ p ∈ t.parts, s.next p = none := fun p hp => by
  unfold PStore.next
  split
  · rename_i h1; exact h _ (hv p hp h1)
  · rfl
theorem next_ren {s : PStore} {vs : List Int} {t : Term} {f : Int → Int} (hv : ∀ p ∈ t.parts, p.kind = 1 → p.n ∈ vs) (h : ∀ x ∈ vs, s.get (f x) = none) : ∀ p ∈ (t.ren f).parts, s.next p = none := fun p hp => by
  obtain ⟨q, hq, rfl⟩ := Term.ren_parts f t p hp
  unfold PStore.next
  rw [Term.ren_kind]
  split
  · rename_i h1; rw [Term.ren_n f h1]; exact h _ (hv q hq h1)
  · rfl
/-- The second part: a copy, bound to a variable that is free. -/
theorem copied_is {s : PStore} {t : Term} {m : Nat} (hv : ∀ p ∈ t.parts, p.kind = 1 → p.n ∈ t.vars) (h0 : ∀ x ∈ t.vars, s.get x = none) (hd : t.deep ≤ 60) (hs : t.size ≤ 1000) (hn : s.cells.length + t.vars.length ≤ 4096) (hm : s.get m = none) (hml : m < s.cells.length)
    (hf : ∀ x ∈ t.vars, s.get (wrap64 (placeOf t.vars x + s.cells.length)) = none ∧ wrap64 (placeOf t.vars x + s.cells.length) ≠ m) :
    askR s ⟨#[99, 111, 112, 121, 95, 116, 101, 114, 109]⟩ [t, Term.var m] = (true, 0, (s.fresh t.vars.length).bind m (t.ren fun x => wrap64 (placeOf t.vars x + s.cells.length))) := by
  have hfull : s.full t = (t, 0) := full_id (PStore.walk_free (next_of hv h0 t (parts_self t))) (next_of hv h0) hd hs
  have hcopy : s.copyT t = (t.ren fun x => wrap64 (placeOf t.vars x + s.cells.length), 0, s.fresh t.vars.length) := by
    unfold PStore.copyT
    rw [hfull, if_pos rfl]
    unfold PStore.freshT
    rw [if_pos hn]
    show ((Term.ren (placeOf t.vars) t).ren fun n => wrap64 (n + s.cells.length), (0 : Int), _) = _
    rw [Term.ren_ren]
  have hnx := next_ren (s := s.fresh t.vars.length) (f := fun x => wrap64 (placeOf t.vars x + s.cells.length)) hv (fun x hx => by rw [PStore.fresh_get]; exact (hf x hx).1)
  have hlen : (s.fresh t.vars.length).cells.length = s.cells.length + t.vars.length := by simp [PStore.fresh]
  have hno : ∀ p ∈ (t.ren fun x => wrap64 (placeOf t.vars x + s.cells.length)).parts, ¬ (p.kind = 1 ∧ p.n = (m : Int)) := fun p hp e => by
    obtain ⟨q, hq, rfl⟩ := Term.ren_parts _ t p hp
    rw [Term.ren_kind] at e
    rw [Term.ren_n _ e.1] at e
    exact (hf _ (hv q hq e.1)).2 e.2
  have hmt := matchT_bind Lat.nine (s.fresh t.vars.length) m (t.ren fun x => wrap64 (placeOf t.vars x + s.cells.length)) (cell_get (by rw [PStore.fresh_get]; exact hm) (by omega)) (PStore.walk_free (hnx _ (parts_self _))) (hno _ (parts_self _)) (has_no (fun p hp => ⟨hnx p hp, hno p hp⟩))
  rw [askR_at (i := 12) (by kernel_rfl)]
  show ((s.copiedT Lat.nine t (Term.var m)).1, (s.copiedT Lat.nine t (Term.var m)).2.2.1, (s.copiedT Lat.nine t (Term.var m)).2.2.2) = _
  unfold PStore.copiedT
  rw [hcopy, if_pos rfl]
  dsimp only
  rw [hmt]
theorem place_is {vs : List Int} {x : Int} (h : x ∈ vs) : placeOf vs x = (vs.idxOf x : Nat) ∧ vs.idxOf x < vs.length := ⟨by rw [placeOf, if_pos h], List.idxOf_lt_length_of_mem h⟩
theorem copies_law {t : Term} (hc : t.check 9 = 0) (hs : t.size ≤ 200) (hd : t.deep ≤ 50) (hlow : ∀ x ∈ t.vars, x < 6) : ∃ s1 s2 s3, askR st12 ⟨#[99, 111, 112, 121, 95, 116, 101, 114, 109]⟩ [t, Term.var 10] = (true, 0, s1) ∧
    askR s1 ⟨#[99, 111, 112, 121, 95, 116, 101, 114, 109]⟩ [t, Term.var 11] = (true, 0, s2) ∧ askR s2 ⟨#[61, 61]⟩ [Term.var 10, Term.var 11] = (decide (t.vars.length = 0), 0, s2) ∧ askR s2 ⟨#[61]⟩ [Term.var 10, Term.var 11] = (true, 0, s3) := by
  have hg := check_good hc
  have hv : ∀ p ∈ t.parts, p.kind = 1 → p.n ∈ t.vars := fun p hp h1 => mem_vars hp h1
  have hn := vars_length t
  generalize hN : t.vars.length = N at hn
  have hl12 : st12.cells.length = 12 := rfl
  have hp : ∀ x ∈ t.vars, ∃ i, placeOf t.vars x = (i : Nat) ∧ i < N ∧ t.vars[i]? = some x := fun x hx => by
    obtain ⟨h1, h2⟩ := place_is hx
    exact ⟨_, h1, hN ▸ h2, by rw [List.getElem?_eq_getElem h2, List.getElem_idxOf h2]⟩
  have hw1 : ∀ x ∈ t.vars, ∃ i : Nat, wrap64 (placeOf t.vars x + (st12.cells.length : Int)) = 12 + i ∧ i < N ∧ t.vars[i]? = some x := fun x hx => by
    obtain ⟨i, h1, h2, h3⟩ := hp x hx
    exact ⟨i, by rw [h1, hl12]; unfold wrap64; omega, h2, h3⟩
  have c1 := copied_is (s := st12) (t := t) (m := 10) hv (fun x _ => st12_get x) (by omega) (by omega) (by rw [hl12]; omega) (st12_get _) (by rw [hl12]; omega) (fun x hx => ⟨st12_get _, by obtain ⟨i, h1, _⟩ := hw1 x hx; omega⟩)
  generalize hf : (fun x => wrap64 (placeOf t.vars x + (st12.cells.length : Int))) = f at c1
  have hfx : ∀ x, wrap64 (placeOf t.vars x + (st12.cells.length : Int)) = f x := fun x => by rw [← hf]
  simp only [hfx] at hw1
  have g1 : ∀ x, ((st12.fresh t.vars.length).bind 10 (t.ren f)).get x = if x = 10 then some (t.ren f) else none := fun x => by
    rw [get_bind (by simp [PStore.fresh, hl12]; omega), PStore.fresh_get, st12_get]
    rfl
  have l1 : ((st12.fresh t.vars.length).bind 10 (t.ren f)).cells.length = 12 + N := by simp [PStore.bind, PStore.fresh, hl12, hN]
  generalize (st12.fresh t.vars.length).bind 10 (t.ren f) = s1 at *
  have hw2 : ∀ x ∈ t.vars, ∃ i : Nat, wrap64 (placeOf t.vars x + (s1.cells.length : Int)) = 12 + N + i ∧ i < N ∧ t.vars[i]? = some x := fun x hx => by
    obtain ⟨i, h1, h2, h3⟩ := hp x hx
    exact ⟨i, by rw [h1, l1]; unfold wrap64; omega, h2, h3⟩
  have c2 := copied_is (s := s1) (t := t) (m := 11) hv (fun x hx => by rw [g1, if_neg (by have := hlow x hx; omega)]) (by omega) (by omega) (by rw [l1]; omega) (by rw [g1]; rfl) (by rw [l1]; omega)
    (fun x hx => by obtain ⟨i, h1, _⟩ := hw2 x hx; rw [h1, g1]; exact ⟨if_neg (by omega), by omega⟩)
  generalize hgd : (fun x => wrap64 (placeOf t.vars x + (s1.cells.length : Int))) = g at c2
  have hgx : ∀ x, wrap64 (placeOf t.vars x + (s1.cells.length : Int)) = g x := fun x => by rw [← hgd]
  simp only [hgx] at hw2
  have g2 : ∀ x, ((s1.fresh t.vars.length).bind 11 (t.ren g)).get x = if x = 11 then some (t.ren g) else if x = 10 then some (t.ren f) else none := fun x => by
    rw [get_bind (by simp [PStore.fresh, l1]; omega), PStore.fresh_get, g1]
    rfl
  have l2 : ((s1.fresh t.vars.length).bind 11 (t.ren g)).cells.length = 12 + N + N := by simp [PStore.bind, PStore.fresh, l1, hN]
  generalize (s1.fresh t.vars.length).bind 11 (t.ren g) = s2 at *
  have nf := next_ren (s := s2) (f := f) hv (fun x hx => by obtain ⟨i, h1, _⟩ := hw1 x hx; rw [h1, g2, if_neg (by omega), if_neg (by omega)])
  have ng := next_ren (s := s2) (f := g) hv (fun x hx => by obtain ⟨i, h1, _⟩ := hw2 x hx; rw [h1, g2, if_neg (by omega), if_neg (by omega)])
  have w1 : s2.walk (Term.var 10) = t.ren f := walk_bound (by rw [g2]; rfl) (nf _ (parts_self _))
  have w2 : s2.walk (Term.var 11) = t.ren g := walk_bound (by rw [g2]; rfl) (ng _ (parts_self _))
  have hi : ∀ x ∈ t.vars, ∀ y ∈ t.vars, f x = f y → x = y := fun x hx y hy e => by
    obtain ⟨i, h1, _, h3⟩ := hw1 x hx
    obtain ⟨j, k1, _, k3⟩ := hw1 y hy
    have : i = j := by omega
    subst this
    rw [h3] at k3
    exact Option.some.inj k3
  have hdis : ∀ x ∈ t.vars, ∀ y ∈ t.vars, f x ≠ g y := fun x hx y hy e => by
    obtain ⟨i, h1, h2, _⟩ := hw1 x hx
    obtain ⟨j, k1, _, _⟩ := hw2 y hy
    omega
  have hcp : Copies t.vars f g s2 := fun x hx => by
    obtain ⟨i, h1, h2, _⟩ := hw1 x hx
    obtain ⟨j, k1, _, _⟩ := hw2 x hx
    refine ⟨by rw [k1, g2, if_neg (by omega), if_neg (by omega)], by omega, .inl ?_⟩
    exact cell_get (by rw [g2, if_neg (by omega), if_neg (by omega)]) (by rw [l2]; omega)
  obtain ⟨lev', s3, hm⟩ := match_copies t.vars f g hi hdis 2000 s2 [t] Lat.nine.bottom hcp (fun u hu => by rw [List.mem_singleton.1 hu]; exact hg) (by have := erase_size t; simp; omega)
  refine ⟨_, _, s3, c1, c2, ?_, ?_⟩
  · rw [askR_at (i := 4) (by kernel_rfl)]
    show ((s2.cmpT Lat.nine isZ (Term.var 10) (Term.var 11)).1, (s2.cmpT Lat.nine isZ (Term.var 10) (Term.var 11)).2.2.1, (s2.cmpT Lat.nine isZ (Term.var 10) (Term.var 11)).2.2.2) = _
    unfold PStore.cmpT
    rw [full_id w1 nf (by rw [Term.ren_deep]; omega) (by rw [Term.ren_size]; omega), full_id w2 ng (by rw [Term.ren_deep]; omega) (by rw [Term.ren_size]; omega), if_pos rfl, if_pos rfl]
    dsimp only
    rw [Term.ren_erase, Term.ren_erase]
    refine Prod.ext ?_ rfl
    show (bareF (t.erase.ren f) (t.erase.ren g) == 0) = decide (N = 0)
    by_cases h0 : N = 0
    · have hno : ∀ p ∈ t.parts, p.kind ≠ 1 := fun p hp h1 => by
        have := mem_vars hp h1
        rw [List.length_eq_zero_iff.1 (hN.trans h0)] at this
        cases this
      have hno2 : ∀ p ∈ t.erase.parts, p.kind ≠ 1 := fun p hp h1 => by
        obtain ⟨q, hq, _, h2⟩ := erase_part t p hp
        exact hno q hq (by rw [h2]; exact h1)
      rw [Term.ren_none f _ hno2, Term.ren_none g _ hno2, decide_eq_true h0]
      have := bareF_neg t.erase t.erase
      have : bareF t.erase t.erase = 0 := by omega
      rw [this]; rfl
    · rw [decide_eq_false h0]
      refine beq_eq_false_iff_ne.2 fun e => ?_
      cases hvs : t.vars with
      | nil => rw [hvs] at hN; exact h0 hN.symm
      | cons x xs =>
        have hx : x ∈ t.vars := by rw [hvs]; simp
        obtain ⟨p, hp1, hp2, hp3⟩ := vars_mem hx
        have hpp : p.erase ∈ t.erase.parts := part_erase t p hp1
        have hpv : p = Term.var p.n := by
          rcases hg p hp1 with ⟨y, _, rfl⟩ | ⟨h1 | h1 | h1, _⟩
          · rfl
          · rw [h1.1] at hp2; cases hp2
          · rw [h1] at hp2; cases hp2
          · rw [h1.1] at hp2; cases hp2
        have hpe : p.erase = Term.var x := by rw [hpv, hp3]; rfl
        have := bare_ren f g t.erase e (fun q hq hq1 => by
          obtain ⟨r, hr, rfl, h2⟩ := erase_part t q hq
          rcases hg r hr with ⟨y, _, rfl⟩ | ⟨h1 | h1 | h1, _⟩
          · rfl
          · obtain ⟨rk, rn, rs, rts⟩ := r
            have e1 : rk = 2 := h1.1
            have e2 : rts = [] := h1.2
            subst e1 e2
            rfl
          · rw [← h2, h1] at hq1; omega
          · rw [← h2, h1.1] at hq1; omega) p.erase hpp (by rw [hpe]; rfl)
        rw [hpe] at this
        exact hdis x hx x hx this
  · rw [askR_at (i := 2) (by kernel_rfl)]
    show ((s2.matchT Lat.nine [Term.var 10] [Term.var 11]).1, (s2.matchT Lat.nine [Term.var 10] [Term.var 11]).2.2.1, (s2.matchT Lat.nine [Term.var 10] [Term.var 11]).2.2.2) = _
    rw [matchT_congr (t' := t.ren f) (u' := t.ren g) (by rw [w1, PStore.walk_free (nf _ (parts_self _))]) (by rw [w2, PStore.walk_free (ng _ (parts_self _))])]
    have : s2.matchT Lat.nine [t.ren f] [t.ren g] = (true, lev', 0, s3) := by
      unfold PStore.matchT
      rw [if_pos (by rfl)]
      exact hm
    rw [this]
end Go.Proofs.YtkiofaojokofbaaGreat
namespace Go.Proofs.YtkiofaojokofbaaGreat
open Go.RowKit

def IntRow (w : World) (base : Nat) (v : Value) (zs : List Int) : Prop := w.ownsRow base 3 1 v zs.length (zs.map (Value.int .i64))
theorem IntRow.low {w : World} {a b : Nat} {v : Value} {zs : List Int} (h : IntRow w b v zs) (hab : a ≤ b) : IntRow w a v zs := by
  obtain ⟨h1, h2 | ⟨g, cap, cur, h3, h4, h5⟩⟩ := h
  · exact ⟨h1, .inl h2⟩
  · exact ⟨h1, .inr ⟨g, cap, cur, h3, Nat.le_trans hab h4, h5⟩⟩
theorem IntRow.keep {w w' : World} {b : Nat} {v : Value} {zs : List Int} (h : IntRow w b v zs) (f : Frm [] w w') : IntRow w' b v zs := by
  obtain ⟨h1, h2 | ⟨g, cap, cur, h3, h4, h5, h6⟩⟩ := h
  · exact ⟨h1, .inl h2⟩
  · exact ⟨h1, .inr ⟨g, cap, cur, h3, h4, f.at0 h5, h6⟩⟩
theorem and_then {p q : Prop} (h : p) (k : p → q) : q := k h
theorem wp_append_ex {P : Program} (w : World) {o : Oper} {a : Act} {K : Act → World → Prop} {Q : Exit → Act → World → Prop} (s x : Operand) (t tn : TypeId)
    (ho : o.op = .call { callee := .builtin .append, args := #[s, x], argTypes := #[t, tn] }) (vs vx : Value) (hs : a.eval s = vs) (hx : a.eval x = vx) {R : Value → World → Prop}
    (hr : ∃ v' w', (Builtin.append_ #[t, tn] o.type #[vs, vx]).run P w = .ok v' w' ∧ R v' w') (h : ∀ v' w', R v' w' → K (a.put o.dst v') w') : o.wp P a w K Q := by
  obtain ⟨v', w', h1, h2⟩ := hr
  exact Lib.wp_append_run w s x t tn ho vs vx hs hx v' w' h1 (h v' w' h2)

theorem ints_clone {W w1 : World} {b0 base : Nat} {v : Value} {zs : List Int} (hb : w1.heap[b0]? = some (.cells #[] 3 (0, 0))) (h : IntRow w1 base v zs) (hz : zs.length ≤ 1048576) (f : Frm [] W w1) (hlow : W.heap.size ≤ b0) :
    ∃ v' w', (Builtin.append_ #[48, 48] 48 #[.slice (some ⟨b0, 0, none⟩) 0 0, v]).run Tryz.prog w1 = .ok v' w' ∧ (IntRow w' b0 v' zs ∧ Frm [] W w' ∧ b0 < w'.heap.size ∧ ∀ b o, w1.heap[b]? = some o → b ≠ b0 → w'.heap[b]? = some o) := by
  obtain ⟨i0, hi, hz0, hz1, hz2⟩ := info_parts Tryz.infoInt
  have hlt := (Array.getElem?_eq_some_iff.1 hb).1
  have hown : w1.ownsRow b0 3 1 (.slice (some ⟨b0, 0, none⟩) 0 0) 0 [] := ⟨rfl, .inr ⟨b0, 0, #[], rfl, Nat.le_refl _, hb, Nat.le_refl _, by decide, rfl, rfl⟩⟩
  obtain ⟨A, cap, rfl, hA, -⟩ := ints_row h
  rcases h.2 with ⟨h1, h2⟩ | ⟨g, cap', cur, h1, h2⟩
  · simp only [Value.slice.injEq] at h1
    obtain ⟨rfl, h3, rfl⟩ := h1
    have : zs = [] := List.length_eq_zero_iff.1 h2
    subst this
    exact ⟨_, _, run_append_owned_none w1 b0 48 48 3 i0 1 Tryz.underlying48 hi _ 0 [] hown, hown, f, hlt, fun b o hb _ => hb⟩
  · simp only [Value.slice.injEq] at h1
    obtain ⟨rfl, h3, rfl⟩ := h1
    obtain ⟨v', w', hr, ho, hg, hn, hat⟩ := run_append_own_at (P := Tryz.prog) w1 b0 48 48 3 i0 _ 1 8 Tryz.underlying48 hi hz0 hz1 hz2 rfl (by decide) _ 0 [] hown ⟨g, 0, none⟩ zs.length cap (zs.map (Value.int .i64)) (by simp)
      (fun j u hj => by
        rw [List.getElem?_map] at hj
        cases hzj : zs[j]? with
        | none => rw [hzj] at hj; cases hj
        | some z =>
          rw [hzj] at hj
          cases hj
          obtain ⟨b, off, e, _, hc⟩ := hA j z hzj
          cases e
          rw [Addr.add_lit]; exact hc) (fun u hu => by obtain ⟨z, _, rfl⟩ := List.mem_map.1 hu; rfl) (by unfold maxLen; omega) (by omega) (by omega)
    refine ⟨v', w', hr, ?_, ?_, Nat.lt_of_lt_of_le hlt hg.size, fun b o hb hne => ?_⟩
    · have : 0 + zs.length = zs.length := Nat.zero_add _
      rw [this] at ho
      exact ho
    · exact f.grown hg (fun k hk => .inr (by have : k = b0 := by simpa [Value.ownBlock] using hk.symm
                                             omega))
    · rw [hg.block b (Array.getElem?_eq_some_iff.1 hb).1 (by simp [Value.ownBlock]; exact hne)]; exact hb
theorem ints_snoc {W w1 : World} {b0 b5 : Nat} {v : Value} {zs : List Int} {n : Int} (h : IntRow w1 b0 v zs) (hb : w1.heap[b5]? = some (.cells #[.int .i64 n] 3 (0, 0))) (hz : zs.length ≤ 1048576) (f : Frm [] W w1) (hlow : W.heap.size ≤ b0) (hb0 : b0 ≤ w1.heap.size) :
    ∃ v' w', (Builtin.append_ #[48, 48] 48 #[v, .slice (some ⟨b5, 0, none⟩) 1 1]).run Tryz.prog w1 = .ok v' w' ∧ (IntRow w' 0 v' (zs ++ [n]) ∧ Frm [] W w') := by
  obtain ⟨i0, hi, hz0, hz1, hz2⟩ := info_parts Tryz.infoInt
  have hl := h.lt
  obtain ⟨v', w', hr, ho, hg, hn, hat⟩ := run_append_own_at (P := Tryz.prog) w1 b0 48 48 3 i0 _ 1 8 Tryz.underlying48 hi hz0 hz1 hz2 rfl (by decide) _ _ _ h ⟨b5, 0, none⟩ 1 1 [.int .i64 n] rfl
    (fun j u hj => by
      match j, hj with
      | 0, hj => cases hj; simp [Addr.add, World.cell?, hb]) (by simp [Value.oneCell']) (by unfold maxLen; omega) (by omega) hb0
  refine ⟨v', w', hr, IntRow.low (b := b0) ?_ (Nat.zero_le _), f.grown hg (fun k hk => .inr ?_)⟩
  · show w'.ownsRow _ _ _ _ (zs ++ [n]).length _
    rw [List.length_append, List.map_append]
    exact ho
  · have := (hl k hk).1; omega

theorem ref_has (n : Int) (zs : List Int) (v : Value) (base : Nat) (w : World) (h : IntRow w base v zs) (hz : zs.length ≤ 1048576) :
    Calls Tryz.prog 69 #[v, .int .i64 n] w fun e w' => e = .returned (.bool (decide (n ∈ zs))) ∧ w = w' := by
  obtain ⟨A, cap, rfl, hi, -⟩ := ints_row h
  clear h
  go_enter Tryz.func69, Tryz.ntmps69
  go_wp2
  go_loop [5] (fun i => ∃ j : Nat, j ≤ zs.length ∧ i = .int .i64 j ∧ ∀ k, k < j → zs[k]? ≠ some n) (fun i => zs.length - (intOf i).toNat)
  case atStart => exact ⟨0, Nat.zero_le _, rfl, fun k hk => by omega⟩
  case round =>
    obtain ⟨j, hj, rfl, hno⟩ := hrel
    by_cases hlt : j < zs.length
    · obtain ⟨b, off, rfl, hb, hc⟩ := hi j zs[j] (List.getElem?_eq_getElem hlt)
      have HJ := Lib.hid (List.getElem?_eq_getElem hlt)
      generalize zs[j] = z at *
      by_cases hz : z = n
      · have HD : Hid (decide (n ∈ zs) = true) := decide_eq_true (by subst hz; exact List.mem_of_getElem? HJ.out)
        clear hno
        go_wp2
        go_ret
        exact ⟨ret_bool HD.out.symm, rfl⟩
      · have HNO := Lib.hid hno
        clear hno
        go_wp2
        go_round
        case rel => exact ⟨j + 1, by omega, by go_num, fun k hk => by
          by_cases e : k = j
          · subst e; rw [HJ.out]; exact fun h => hz (Option.some.inj h)
          · exact HNO.out k (by omega)⟩
        case measure => simp [intOf]; omega
    · have : j = zs.length := by omega
      subst this
      have HD : Hid (decide (n ∈ zs) = false) := decide_eq_false (fun hm => by
        obtain ⟨k, hk, e⟩ := List.mem_iff_getElem.1 hm
        exact hno k hk (by rw [List.getElem?_eq_getElem hk, e]))
      clear hno
      go_wp2
      go_ret
      exact ⟨ret_bool HD.out.symm, rfl⟩

theorem foldl_addVar_length : ∀ (ps : List Term) (l : List Int), (ps.foldl Term.addVar l).length ≤ l.length + ps.length
  | [], l => by simp
  | p :: ps, l => by
    have h1 := foldl_addVar_length ps (Term.addVar l p)
    have h2 := addVar_length l p
    simp only [List.foldl_cons, List.length_cons]; omega
theorem flat_length (ts : List Term) : (ts.flatMap Term.parts).length = Term.sizes ts := by
  rw [List.length_flatMap, Term.sizes_eq]
  congr 1
  exact List.map_congr_left (fun x _ => Term.length_partss_and x)
set_option maxRecDepth 100000 in
set_option maxHeartbeats 1000000 in
theorem ref_gather : ∀ (t : Term) (zs : List Int) (F : List Nat) (v lv : Value) (w : World), TermV F w t v → IntRow w 0 lv zs → zs.length + t.size ≤ 1048576 →
    Calls Tryz.prog 43 #[lv, v] w fun e w' => (∃ r, e = .returned r ∧ IntRow w' 0 r (t.parts.foldl Term.addVar zs)) ∧ Frm [] w w' := by
  intro t
  induction t using Term.induct with
  | h k n s ts ih =>
    intro zs F v lv w h hr hsz
    have IH := Lib.hid ih
    clear ih
    simp only [TermV] at h
    obtain ⟨A, cap, rfl, hk1, hn1, hs1, hl1, hc, hc2, hk⟩ := h
    have H0 : Hid ((Term.mk k n s ts).parts.foldl Term.addVar zs = (ts.flatMap Term.parts).foldl Term.addVar (Term.addVar zs (.mk k n s ts))) := by
      show _ = _; rw [Term.parts, Term.partss_eq]; rfl
    have hszt : (Term.mk k n s ts).size = 1 + Term.sizes ts := rfl
    rw [hszt] at hsz
    clear hszt
    have HV : Hid (Term.addVar zs (.mk k n s ts) = if k = 1 ∧ ¬ n ∈ zs then zs ++ [n] else zs) := by
      show _ = _
      unfold Term.addVar
      by_cases h1 : k = 1 <;> by_cases h2 : n ∈ zs <;> simp [Term.kind, Term.n, h1, h2]
    have hlen := addVar_length zs (.mk k n s ts)
    rw [H0.out]
    generalize Term.addVar zs (.mk k n s ts) = z1 at *
    clear H0
    go_enter Tryz.func43, Tryz.ntmps43
    go_upto_region 1 with (fail)
    generalize hW : World.alloc _ _ = W
    have hbx : W.heap[w.heap.size]? = some (.cells #[.int .i64 k, .int .i64 n, .string s, .slice A ts.length cap] 25 (0, 0)) := by subst hW; exact alloc_heap_new _ _
    have FW : Frm [] w W := by subst hW; exact (by repeat (first | with_reducible (first | refine .alloc ?_ _ | refine .drewN ?_ _ | refine .drew ?_) | ((with_reducible refine .setCell ?_ ?_ _); rotate_left; focus (first | (left; simp; done) | (right; simp; (first | done | omega)))) | with_reducible (first | assumption | exact .refl _ _ | refine .trans0 ?_ ‹_›)))
    clear hW
    have hrW := hr.keep FW
    have hkW := hk.keep FW
    obtain ⟨x0, x1, x2, x3, x4, hxlt⟩ := blk4 hbx
    by_cases h1 : k = 1
    · have h1' : (k == 1) = true := by simpa using h1
      by_cases h2 : n ∈ zs
      · have HZ : Hid (z1 = zs) := by show _ = _; rw [HV.out, if_neg (fun h => h.2 h2)]
        have HD := Lib.hid (decide_eq_true h2)
        clear h2 h1
        go_wp2_with (go_at_call 69; refine (ref_has n zs lv 0 _ (hrW.keep (by repeat (first | with_reducible (first | refine .alloc ?_ _ | refine .drewN ?_ _ | refine .drew ?_) | ((with_reducible refine .setCell ?_ ?_ _); rotate_left; focus (first | (left; simp; done) | (right; simp; (first | done | omega)))) | with_reducible (first | assumption | exact .refl _ _ | refine .trans0 ?_ ‹_›)))) (by omega)).mono ?_; rintro e w2 ⟨rfl, rfl⟩; rw [HD.out])
        go_loopw [0, 5] (fun a i wr => ∃ j : Nat, j ≤ ts.length ∧ i = .int .i64 j ∧ IntRow wr 0 a (((ts.take j).flatMap Term.parts).foldl Term.addVar z1) ∧ Frm [] W wr) (fun _ i _ => ts.length - (intOf i).toNat)
        case atStart => exact ⟨0, Nat.zero_le _, rfl, by simpa using (HZ.out ▸ hrW.keep (by repeat (first | with_reducible (first | refine .alloc ?_ _ | refine .drewN ?_ _ | refine .drew ?_) | ((with_reducible refine .setCell ?_ ?_ _); rotate_left; focus (first | (left; simp; done) | (right; simp; (first | done | omega)))) | with_reducible (first | assumption | exact .refl _ _ | refine .trans0 ?_ ‹_›)))), (by repeat (first | with_reducible (first | refine .alloc ?_ _ | refine .drewN ?_ _ | refine .drew ?_) | ((with_reducible refine .setCell ?_ ?_ _); rotate_left; focus (first | (left; simp; done) | (right; simp; (first | done | omega)))) | with_reducible (first | assumption | exact .refl _ _ | refine .trans0 ?_ ‹_›)))⟩
        case round =>
          obtain ⟨j, hj, rfl, hrow, FR⟩ := hrel
          obtain ⟨r0, r1, r2, r3, r4, r5⟩ := blk4 (FR.at0 hbx)
          by_cases hlt : j < ts.length
          · obtain ⟨b', off, A', cap', rfl, hb1, hb2, e0, e1, e2, e3, hkid⟩ := (hkW.keep FR).kid j hlt
            have HT := Lib.hid (take_succ_get hlt)
            have hfl := foldl_addVar_length ((ts.take j).flatMap Term.parts) z1
            rw [flat_length] at hfl
            have hsn := sizes_snoc hlt
            have hst := sizes_take ts (j + 1)
            have HM : Hid (ts[j] ∈ ts) := List.getElem_mem hlt
            generalize ts[j] = t at *
            have hsz2 : (((ts.take j).flatMap Term.parts).foldl Term.addVar z1).length + t.size ≤ 1048576 := by omega
            go_wp2_with (go_at_call 43; refine (IH.out t HM.out _ F _ _ _ (hkid.keep (by repeat (first | with_reducible (first | refine .alloc ?_ _ | refine .drewN ?_ _ | refine .drew ?_) | ((with_reducible refine .setCell ?_ ?_ _); rotate_left; focus (first | (left; simp; done) | (right; simp; (first | done | omega)))) | with_reducible (first | assumption | exact .refl _ _ | refine .trans0 ?_ ‹_›)))) (hrow.keep (by repeat (first | with_reducible (first | refine .alloc ?_ _ | refine .drewN ?_ _ | refine .drew ?_) | ((with_reducible refine .setCell ?_ ?_ _); rotate_left; focus (first | (left; simp; done) | (right; simp; (first | done | omega)))) | with_reducible (first | assumption | exact .refl _ _ | refine .trans0 ?_ ‹_›)))) hsz2).mono ?_; rintro e w3 ⟨⟨r, rfl, hr3⟩, F3⟩)
            go_roundw
            case rel => exact ⟨j + 1, by omega, by go_num, by rw [HT.out, List.flatMap_append, List.foldl_append]; simpa using hr3, (by repeat (first | with_reducible (first | refine .alloc ?_ _ | refine .drewN ?_ _ | refine .drew ?_) | ((with_reducible refine .setCell ?_ ?_ _); rotate_left; focus (first | (left; simp; done) | (right; simp; (first | done | omega)))) | with_reducible (first | assumption | exact .refl _ _ | refine .trans0 ?_ ‹_›)))⟩
            case measure => simp [intOf]; omega
          · have : j = ts.length := by omega
            subst this
            rw [List.take_length] at hrow
            go_wp2
            go_ret
            exact ⟨⟨_, rfl, hrow⟩, (by repeat (first | with_reducible (first | refine .alloc ?_ _ | refine .drewN ?_ _ | refine .drew ?_) | ((with_reducible refine .setCell ?_ ?_ _); rotate_left; focus (first | (left; simp; done) | (right; simp; (first | done | omega)))) | with_reducible (first | assumption | exact .refl _ _ | refine .trans0 ?_ ‹_›)))⟩
      · have HZ : Hid (z1 = zs ++ [n]) := by show _ = _; rw [HV.out, if_pos ⟨h1, h2⟩]
        have HD := Lib.hid (decide_eq_false h2)
        clear h2 h1
        go_upto_if 15 with (go_at_call 69; refine (ref_has n zs lv 0 _ (hrW.keep (by repeat (first | with_reducible (first | refine .alloc ?_ _ | refine .drewN ?_ _ | refine .drew ?_) | ((with_reducible refine .setCell ?_ ?_ _); rotate_left; focus (first | (left; simp; done) | (right; simp; (first | done | omega)))) | with_reducible (first | assumption | exact .refl _ _ | refine .trans0 ?_ ‹_›)))) (by omega)).mono ?_; rintro e w2 ⟨rfl, rfl⟩; rw [HD.out])
        go_cut [0] (fun x0 wx => IntRow wx 0 x0 z1 ∧ Frm [] W wx)
        case first =>
          go_upto_region 2 with (fail)
          refine wp_region_U (fun w' => Frm [] W w') (fun i => Nat.blt i 6) (by kernel_rfl) ?rgnS1 (fun hHeld => ?rgnB1)
          case rgnS1 => (first | (dsimp only; (first | exact (by repeat (first | with_reducible (first | refine .alloc ?_ _ | refine .drewN ?_ _ | refine .drew ?_) | ((with_reducible refine .setCell ?_ ?_ _); rotate_left; focus (first | (left; simp; done) | (right; simp; (first | done | omega)))) | with_reducible (first | assumption | exact .refl _ _ | refine .trans0 ?_ ‹_›))) | exact F2)) | (first | exact (by repeat (first | with_reducible (first | refine .alloc ?_ _ | refine .drewN ?_ _ | refine .drew ?_) | ((with_reducible refine .setCell ?_ ?_ _); rotate_left; focus (first | (left; simp; done) | (right; simp; (first | done | omega)))) | with_reducible (first | assumption | exact .refl _ _ | refine .trans0 ?_ ‹_›))) | exact F2))
          case' rgnB1 => skip
          refine Pend.start [1, 3, 4] ?_
          iterate 3 (refine tk (v := ?_) rfl (by kernel_rfl) (by rfl) (fun _ _ _ h => h) (by assumption) ?_ ?_; rotate_left; (focus (intro wq hSw; (try dsimp only at hSw); have X1 := (hSw.cell hxlt (by simp)).trans x1; go_simp; (first | done | with_reducible rfl))); try simp only [Act.put, List.setIfInBounds_toArray, List.set_cons_zero, List.set_cons_succ])
          refine Pend.done ?_
          refine two 0 5 (by kernel_rfl) rfl rfl (fun K' hK => ?_) (fun K' hK => ?_)
          · skip
            (rw [if_pos (by rfl)]; go_simp)
            refine hK.out _ _ (fun _ => ?rgnS2) (fun hH => ?rgnB2)
            case rgnS2 => (first | (dsimp only; (first | exact (by repeat (first | with_reducible (first | refine .alloc ?_ _ | refine .drewN ?_ _ | refine .drew ?_) | ((with_reducible refine .setCell ?_ ?_ _); rotate_left; focus (first | (left; simp; done) | (right; simp; (first | done | omega)))) | with_reducible (first | assumption | exact .refl _ _ | refine .trans0 ?_ ‹_›))) | exact F2)) | (first | exact (by repeat (first | with_reducible (first | refine .alloc ?_ _ | refine .drewN ?_ _ | refine .drew ?_) | ((with_reducible refine .setCell ?_ ?_ _); rotate_left; focus (first | (left; simp; done) | (right; simp; (first | done | omega)))) | with_reducible (first | assumption | exact .refl _ _ | refine .trans0 ?_ ‹_›))) | exact F2))
            case' rgnB2 => ((try clear hHeld); have hHeld := hH (by decide); clear hH)
            clear hK K'
            try simp only [Act.put, List.setIfInBounds_toArray, List.set_cons_zero, List.set_cons_succ]
            refine two 2 5 (by kernel_rfl) rfl rfl (fun K' hK => ?_) (fun K' hK => ?_)
            · skip
              (refine wp_append_ex _ _ _ _ _ rfl _ _ rfl rfl (ints_clone (W := W) (base := 0) (zs := zs) ?_ (hrW.keep ?_) (by omega) ?_ ?_) ?_; (focus exact (show (World.alloc _ _).heap[_]? = some _ from (by repeat (first | rw [heap_alloc_at] | rw [heap_size_alloc] | rfl | rw [if_pos (by omega)] | rw [if_neg (by omega)])))); (focus exact (by repeat (first | with_reducible (first | refine .alloc ?_ _ | refine .drewN ?_ _ | refine .drew ?_) | ((with_reducible refine .setCell ?_ ?_ _); rotate_left; focus (first | (left; simp; done) | (right; simp; (first | done | omega)))) | with_reducible (first | assumption | exact .refl _ _ | refine .trans0 ?_ ‹_›)))); (focus exact (by repeat (first | with_reducible (first | refine .alloc ?_ _ | refine .drewN ?_ _ | refine .drew ?_) | ((with_reducible refine .setCell ?_ ?_ _); rotate_left; focus (first | (left; simp; done) | (right; simp; (first | done | omega)))) | with_reducible (first | assumption | exact .refl _ _ | refine .trans0 ?_ ‹_›)))); (focus (simp; done)); rintro v2 w2 ⟨hv2, F2, hl2, HK2⟩; (try (refine and_then (p := w2.heap[W.heap.size + 1]? = some (.cells #[.int .i64 n] 3 (0, 0))) ?_ (fun hb5 => ?_); (focus (refine HK2 _ _ ?_ ?_; (focus (show (World.alloc (World.alloc W _) _).heap[_]? = _; (repeat (first | rw [heap_alloc_at] | rw [heap_size_alloc] | rfl | rw [if_pos (by omega)] | rw [if_neg (by omega)])); done)); (focus (simp; done)))))); (try (refine and_then (p := w2.heap[W.heap.size]? = some (.cells #[.int .i64 n] 3 (0, 0))) ?_ (fun hb5 => ?_); (focus (refine HK2 _ _ ?_ ?_; (focus (show (World.alloc (World.alloc W _) _).heap[_]? = _; (repeat (first | rw [heap_alloc_at] | rw [heap_size_alloc] | rfl | rw [if_pos (by omega)] | rw [if_neg (by omega)])); done)); (focus (simp; done)))))); clear HK2; dsimp only)
              refine hK.out _ _ (fun _ => ?rgnS3) (fun hH => ?rgnB3)
              case rgnS3 => (first | (dsimp only; (first | exact (by repeat (first | with_reducible (first | refine .alloc ?_ _ | refine .drewN ?_ _ | refine .drew ?_) | ((with_reducible refine .setCell ?_ ?_ _); rotate_left; focus (first | (left; simp; done) | (right; simp; (first | done | omega)))) | with_reducible (first | assumption | exact .refl _ _ | refine .trans0 ?_ ‹_›))) | exact F2)) | (first | exact (by repeat (first | with_reducible (first | refine .alloc ?_ _ | refine .drewN ?_ _ | refine .drew ?_) | ((with_reducible refine .setCell ?_ ?_ _); rotate_left; focus (first | (left; simp; done) | (right; simp; (first | done | omega)))) | with_reducible (first | assumption | exact .refl _ _ | refine .trans0 ?_ ‹_›))) | exact F2))
              case' rgnB3 => ((try clear hHeld); have hHeld := hH (by decide); clear hH)
              clear hK K'
              try simp only [Act.put, List.setIfInBounds_toArray, List.set_cons_zero, List.set_cons_succ]
              refine one 5 (by kernel_rfl) rfl (fun K' hK => ?_)
              (rw [if_pos (by rfl)]; go_simp)
              refine hK.out _ _ (fun _ => ?rgnS4) (fun hH => ?rgnB4)
              case rgnS4 => (first | (dsimp only; (first | exact (by repeat (first | with_reducible (first | refine .alloc ?_ _ | refine .drewN ?_ _ | refine .drew ?_) | ((with_reducible refine .setCell ?_ ?_ _); rotate_left; focus (first | (left; simp; done) | (right; simp; (first | done | omega)))) | with_reducible (first | assumption | exact .refl _ _ | refine .trans0 ?_ ‹_›))) | exact F2)) | (first | exact (by repeat (first | with_reducible (first | refine .alloc ?_ _ | refine .drewN ?_ _ | refine .drew ?_) | ((with_reducible refine .setCell ?_ ?_ _); rotate_left; focus (first | (left; simp; done) | (right; simp; (first | done | omega)))) | with_reducible (first | assumption | exact .refl _ _ | refine .trans0 ?_ ‹_›))) | exact F2))
              case' rgnB4 => ((try clear hHeld); have hHeld := hH (by decide); clear hH)
              clear hK K'
              try simp only [Act.put, List.setIfInBounds_toArray, List.set_cons_zero, List.set_cons_succ]
              refine one 6 (by kernel_rfl) rfl (fun K' hK => ?_)
              (rw [if_pos (by rfl)]; refine wp_append_ex _ _ _ _ _ rfl _ _ rfl rfl (ints_snoc (W := W) (n := n) (hv2.keep ?_) ?_ (by omega) ?_ ?_ ?_) ?_; (focus exact (by repeat (first | with_reducible (first | refine .alloc ?_ _ | refine .drewN ?_ _ | refine .drew ?_) | ((with_reducible refine .setCell ?_ ?_ _); rotate_left; focus (first | (left; simp; done) | (right; simp; (first | done | omega)))) | with_reducible (first | assumption | exact .refl _ _ | refine .trans0 ?_ ‹_›)))); (focus (first | exact hb5 | exact (show (World.alloc _ _).heap[_]? = some _ from (by repeat (first | rw [heap_alloc_at] | rw [heap_size_alloc] | rfl | rw [if_pos (by omega)] | rw [if_neg (by omega)]))))); (focus exact (by repeat (first | with_reducible (first | refine .alloc ?_ _ | refine .drewN ?_ _ | refine .drew ?_) | ((with_reducible refine .setCell ?_ ?_ _); rotate_left; focus (first | (left; simp; done) | (right; simp; (first | done | omega)))) | with_reducible (first | assumption | exact .refl _ _ | refine .trans0 ?_ ‹_›)))); (focus (first | omega | (simp; (first | done | omega)))); (focus (first | omega | (simp; (first | done | omega)))); rintro v3 w3 ⟨hv3, F3⟩; dsimp only)
              refine hK.out _ _ (fun h => absurd h (by decide)) (fun _ => ?_)
              clear hK K'
              try simp only [Act.put, List.setIfInBounds_toArray, List.set_cons_zero, List.set_cons_succ]
              refine Pend.start [7] ?_
              (refine tkl (v := ?_) rfl (by kernel_rfl) (by rfl) (fun _ _ _ h => h) ?_ ?_; rotate_left; (focus (intro wq hSw; go_simp; (first | done | with_reducible rfl))); try simp only [Act.put, List.setIfInBounds_toArray, List.set_cons_zero])
              refine Pend.done ?_
              refine wpAnyU_done (by kernel_rfl) ?_ _
              (go_wp2; go_meet; exact ⟨HZ.out ▸ hv3, F3⟩)
            · skip
              (rw [if_pos (by rfl)]; go_simp)
              refine hK.out _ _ (fun _ => ?rgnS5) (fun hH => ?rgnB5)
              case rgnS5 => (first | (dsimp only; (first | exact (by repeat (first | with_reducible (first | refine .alloc ?_ _ | refine .drewN ?_ _ | refine .drew ?_) | ((with_reducible refine .setCell ?_ ?_ _); rotate_left; focus (first | (left; simp; done) | (right; simp; (first | done | omega)))) | with_reducible (first | assumption | exact .refl _ _ | refine .trans0 ?_ ‹_›))) | exact F2)) | (first | exact (by repeat (first | with_reducible (first | refine .alloc ?_ _ | refine .drewN ?_ _ | refine .drew ?_) | ((with_reducible refine .setCell ?_ ?_ _); rotate_left; focus (first | (left; simp; done) | (right; simp; (first | done | omega)))) | with_reducible (first | assumption | exact .refl _ _ | refine .trans0 ?_ ‹_›))) | exact F2))
              case' rgnB5 => ((try clear hHeld); have hHeld := hH (by decide); clear hH)
              clear hK K'
              try simp only [Act.put, List.setIfInBounds_toArray, List.set_cons_zero, List.set_cons_succ]
              refine one 2 (by kernel_rfl) rfl (fun K' hK => ?_)
              (refine wp_append_ex _ _ _ _ _ rfl _ _ rfl rfl (ints_clone (W := W) (base := 0) (zs := zs) ?_ (hrW.keep ?_) (by omega) ?_ ?_) ?_; (focus exact (show (World.alloc _ _).heap[_]? = some _ from (by repeat (first | rw [heap_alloc_at] | rw [heap_size_alloc] | rfl | rw [if_pos (by omega)] | rw [if_neg (by omega)])))); (focus exact (by repeat (first | with_reducible (first | refine .alloc ?_ _ | refine .drewN ?_ _ | refine .drew ?_) | ((with_reducible refine .setCell ?_ ?_ _); rotate_left; focus (first | (left; simp; done) | (right; simp; (first | done | omega)))) | with_reducible (first | assumption | exact .refl _ _ | refine .trans0 ?_ ‹_›)))); (focus exact (by repeat (first | with_reducible (first | refine .alloc ?_ _ | refine .drewN ?_ _ | refine .drew ?_) | ((with_reducible refine .setCell ?_ ?_ _); rotate_left; focus (first | (left; simp; done) | (right; simp; (first | done | omega)))) | with_reducible (first | assumption | exact .refl _ _ | refine .trans0 ?_ ‹_›)))); (focus (simp; done)); rintro v2 w2 ⟨hv2, F2, hl2, HK2⟩; (try (refine and_then (p := w2.heap[W.heap.size + 1]? = some (.cells #[.int .i64 n] 3 (0, 0))) ?_ (fun hb5 => ?_); (focus (refine HK2 _ _ ?_ ?_; (focus (show (World.alloc (World.alloc W _) _).heap[_]? = _; (repeat (first | rw [heap_alloc_at] | rw [heap_size_alloc] | rfl | rw [if_pos (by omega)] | rw [if_neg (by omega)])); done)); (focus (simp; done)))))); (try (refine and_then (p := w2.heap[W.heap.size]? = some (.cells #[.int .i64 n] 3 (0, 0))) ?_ (fun hb5 => ?_); (focus (refine HK2 _ _ ?_ ?_; (focus (show (World.alloc (World.alloc W _) _).heap[_]? = _; (repeat (first | rw [heap_alloc_at] | rw [heap_size_alloc] | rfl | rw [if_pos (by omega)] | rw [if_neg (by omega)])); done)); (focus (simp; done)))))); clear HK2; dsimp only)
              refine hK.out _ _ (fun _ => ?rgnS6) (fun hH => ?rgnB6)
              case rgnS6 => (first | (dsimp only; (first | exact (by repeat (first | with_reducible (first | refine .alloc ?_ _ | refine .drewN ?_ _ | refine .drew ?_) | ((with_reducible refine .setCell ?_ ?_ _); rotate_left; focus (first | (left; simp; done) | (right; simp; (first | done | omega)))) | with_reducible (first | assumption | exact .refl _ _ | refine .trans0 ?_ ‹_›))) | exact F2)) | (first | exact (by repeat (first | with_reducible (first | refine .alloc ?_ _ | refine .drewN ?_ _ | refine .drew ?_) | ((with_reducible refine .setCell ?_ ?_ _); rotate_left; focus (first | (left; simp; done) | (right; simp; (first | done | omega)))) | with_reducible (first | assumption | exact .refl _ _ | refine .trans0 ?_ ‹_›))) | exact F2))
              case' rgnB6 => ((try clear hHeld); have hHeld := hH (by decide); clear hH)
              clear hK K'
              try simp only [Act.put, List.setIfInBounds_toArray, List.set_cons_zero, List.set_cons_succ]
              refine one 6 (by kernel_rfl) rfl (fun K' hK => ?_)
              (rw [if_pos (by rfl)]; refine wp_append_ex _ _ _ _ _ rfl _ _ rfl rfl (ints_snoc (W := W) (n := n) (hv2.keep ?_) ?_ (by omega) ?_ ?_ ?_) ?_; (focus exact (by repeat (first | with_reducible (first | refine .alloc ?_ _ | refine .drewN ?_ _ | refine .drew ?_) | ((with_reducible refine .setCell ?_ ?_ _); rotate_left; focus (first | (left; simp; done) | (right; simp; (first | done | omega)))) | with_reducible (first | assumption | exact .refl _ _ | refine .trans0 ?_ ‹_›)))); (focus (first | exact hb5 | exact (show (World.alloc _ _).heap[_]? = some _ from (by repeat (first | rw [heap_alloc_at] | rw [heap_size_alloc] | rfl | rw [if_pos (by omega)] | rw [if_neg (by omega)]))))); (focus exact (by repeat (first | with_reducible (first | refine .alloc ?_ _ | refine .drewN ?_ _ | refine .drew ?_) | ((with_reducible refine .setCell ?_ ?_ _); rotate_left; focus (first | (left; simp; done) | (right; simp; (first | done | omega)))) | with_reducible (first | assumption | exact .refl _ _ | refine .trans0 ?_ ‹_›)))); (focus (first | omega | (simp; (first | done | omega)))); (focus (first | omega | (simp; (first | done | omega)))); rintro v3 w3 ⟨hv3, F3⟩; dsimp only)
              refine hK.out _ _ (fun h => absurd h (by decide)) (fun _ => ?_)
              clear hK K'
              try simp only [Act.put, List.setIfInBounds_toArray, List.set_cons_zero, List.set_cons_succ]
              refine Pend.start [7] ?_
              (refine tkl (v := ?_) rfl (by kernel_rfl) (by rfl) (fun _ _ _ h => h) ?_ ?_; rotate_left; (focus (intro wq hSw; go_simp; (first | done | with_reducible rfl))); try simp only [Act.put, List.setIfInBounds_toArray, List.set_cons_zero])
              refine Pend.done ?_
              refine wpAnyU_done (by kernel_rfl) ?_ _
              (go_wp2; go_meet; exact ⟨HZ.out ▸ hv3, F3⟩)
          · skip
            (rw [if_pos (by rfl)]; go_simp)
            refine hK.out _ _ (fun _ => ?rgnS7) (fun hH => ?rgnB7)
            case rgnS7 => (first | (dsimp only; (first | exact (by repeat (first | with_reducible (first | refine .alloc ?_ _ | refine .drewN ?_ _ | refine .drew ?_) | ((with_reducible refine .setCell ?_ ?_ _); rotate_left; focus (first | (left; simp; done) | (right; simp; (first | done | omega)))) | with_reducible (first | assumption | exact .refl _ _ | refine .trans0 ?_ ‹_›))) | exact F2)) | (first | exact (by repeat (first | with_reducible (first | refine .alloc ?_ _ | refine .drewN ?_ _ | refine .drew ?_) | ((with_reducible refine .setCell ?_ ?_ _); rotate_left; focus (first | (left; simp; done) | (right; simp; (first | done | omega)))) | with_reducible (first | assumption | exact .refl _ _ | refine .trans0 ?_ ‹_›))) | exact F2))
            case' rgnB7 => ((try clear hHeld); have hHeld := hH (by decide); clear hH)
            clear hK K'
            try simp only [Act.put, List.setIfInBounds_toArray, List.set_cons_zero, List.set_cons_succ]
            refine one 0 (by kernel_rfl) rfl (fun K' hK => ?_)
            (rw [if_pos (by rfl)]; go_simp)
            refine hK.out _ _ (fun _ => ?rgnS8) (fun hH => ?rgnB8)
            case rgnS8 => (first | (dsimp only; (first | exact (by repeat (first | with_reducible (first | refine .alloc ?_ _ | refine .drewN ?_ _ | refine .drew ?_) | ((with_reducible refine .setCell ?_ ?_ _); rotate_left; focus (first | (left; simp; done) | (right; simp; (first | done | omega)))) | with_reducible (first | assumption | exact .refl _ _ | refine .trans0 ?_ ‹_›))) | exact F2)) | (first | exact (by repeat (first | with_reducible (first | refine .alloc ?_ _ | refine .drewN ?_ _ | refine .drew ?_) | ((with_reducible refine .setCell ?_ ?_ _); rotate_left; focus (first | (left; simp; done) | (right; simp; (first | done | omega)))) | with_reducible (first | assumption | exact .refl _ _ | refine .trans0 ?_ ‹_›))) | exact F2))
            case' rgnB8 => ((try clear hHeld); have hHeld := hH (by decide); clear hH)
            clear hK K'
            try simp only [Act.put, List.setIfInBounds_toArray, List.set_cons_zero, List.set_cons_succ]
            refine one 2 (by kernel_rfl) rfl (fun K' hK => ?_)
            (refine wp_append_ex _ _ _ _ _ rfl _ _ rfl rfl (ints_clone (W := W) (base := 0) (zs := zs) ?_ (hrW.keep ?_) (by omega) ?_ ?_) ?_; (focus exact (show (World.alloc _ _).heap[_]? = some _ from (by repeat (first | rw [heap_alloc_at] | rw [heap_size_alloc] | rfl | rw [if_pos (by omega)] | rw [if_neg (by omega)])))); (focus exact (by repeat (first | with_reducible (first | refine .alloc ?_ _ | refine .drewN ?_ _ | refine .drew ?_) | ((with_reducible refine .setCell ?_ ?_ _); rotate_left; focus (first | (left; simp; done) | (right; simp; (first | done | omega)))) | with_reducible (first | assumption | exact .refl _ _ | refine .trans0 ?_ ‹_›)))); (focus exact (by repeat (first | with_reducible (first | refine .alloc ?_ _ | refine .drewN ?_ _ | refine .drew ?_) | ((with_reducible refine .setCell ?_ ?_ _); rotate_left; focus (first | (left; simp; done) | (right; simp; (first | done | omega)))) | with_reducible (first | assumption | exact .refl _ _ | refine .trans0 ?_ ‹_›)))); (focus (simp; done)); rintro v2 w2 ⟨hv2, F2, hl2, HK2⟩; (try (refine and_then (p := w2.heap[W.heap.size + 1]? = some (.cells #[.int .i64 n] 3 (0, 0))) ?_ (fun hb5 => ?_); (focus (refine HK2 _ _ ?_ ?_; (focus (show (World.alloc (World.alloc W _) _).heap[_]? = _; (repeat (first | rw [heap_alloc_at] | rw [heap_size_alloc] | rfl | rw [if_pos (by omega)] | rw [if_neg (by omega)])); done)); (focus (simp; done)))))); (try (refine and_then (p := w2.heap[W.heap.size]? = some (.cells #[.int .i64 n] 3 (0, 0))) ?_ (fun hb5 => ?_); (focus (refine HK2 _ _ ?_ ?_; (focus (show (World.alloc (World.alloc W _) _).heap[_]? = _; (repeat (first | rw [heap_alloc_at] | rw [heap_size_alloc] | rfl | rw [if_pos (by omega)] | rw [if_neg (by omega)])); done)); (focus (simp; done)))))); clear HK2; dsimp only)
            refine hK.out _ _ (fun _ => ?rgnS9) (fun hH => ?rgnB9)
            case rgnS9 => (first | (dsimp only; (first | exact (by repeat (first | with_reducible (first | refine .alloc ?_ _ | refine .drewN ?_ _ | refine .drew ?_) | ((with_reducible refine .setCell ?_ ?_ _); rotate_left; focus (first | (left; simp; done) | (right; simp; (first | done | omega)))) | with_reducible (first | assumption | exact .refl _ _ | refine .trans0 ?_ ‹_›))) | exact F2)) | (first | exact (by repeat (first | with_reducible (first | refine .alloc ?_ _ | refine .drewN ?_ _ | refine .drew ?_) | ((with_reducible refine .setCell ?_ ?_ _); rotate_left; focus (first | (left; simp; done) | (right; simp; (first | done | omega)))) | with_reducible (first | assumption | exact .refl _ _ | refine .trans0 ?_ ‹_›))) | exact F2))
            case' rgnB9 => ((try clear hHeld); have hHeld := hH (by decide); clear hH)
            clear hK K'
            try simp only [Act.put, List.setIfInBounds_toArray, List.set_cons_zero, List.set_cons_succ]
            refine one 6 (by kernel_rfl) rfl (fun K' hK => ?_)
            (rw [if_pos (by rfl)]; refine wp_append_ex _ _ _ _ _ rfl _ _ rfl rfl (ints_snoc (W := W) (n := n) (hv2.keep ?_) ?_ (by omega) ?_ ?_ ?_) ?_; (focus exact (by repeat (first | with_reducible (first | refine .alloc ?_ _ | refine .drewN ?_ _ | refine .drew ?_) | ((with_reducible refine .setCell ?_ ?_ _); rotate_left; focus (first | (left; simp; done) | (right; simp; (first | done | omega)))) | with_reducible (first | assumption | exact .refl _ _ | refine .trans0 ?_ ‹_›)))); (focus (first | exact hb5 | exact (show (World.alloc _ _).heap[_]? = some _ from (by repeat (first | rw [heap_alloc_at] | rw [heap_size_alloc] | rfl | rw [if_pos (by omega)] | rw [if_neg (by omega)]))))); (focus exact (by repeat (first | with_reducible (first | refine .alloc ?_ _ | refine .drewN ?_ _ | refine .drew ?_) | ((with_reducible refine .setCell ?_ ?_ _); rotate_left; focus (first | (left; simp; done) | (right; simp; (first | done | omega)))) | with_reducible (first | assumption | exact .refl _ _ | refine .trans0 ?_ ‹_›)))); (focus (first | omega | (simp; (first | done | omega)))); (focus (first | omega | (simp; (first | done | omega)))); rintro v3 w3 ⟨hv3, F3⟩; dsimp only)
            refine hK.out _ _ (fun h => absurd h (by decide)) (fun _ => ?_)
            clear hK K'
            try simp only [Act.put, List.setIfInBounds_toArray, List.set_cons_zero, List.set_cons_succ]
            refine Pend.start [7] ?_
            (refine tkl (v := ?_) rfl (by kernel_rfl) (by rfl) (fun _ _ _ h => h) ?_ ?_; rotate_left; (focus (intro wq hSw; go_simp; (first | done | with_reducible rfl))); try simp only [Act.put, List.setIfInBounds_toArray, List.set_cons_zero])
            refine Pend.done ?_
            refine wpAnyU_done (by kernel_rfl) ?_ _
            (go_wp2; go_meet; exact ⟨HZ.out ▸ hv3, F3⟩)
        case rest =>
          obtain ⟨hr1, F1⟩ := hcut
          go_wp2
          go_loopw [0, 5] (fun a i wr => ∃ j : Nat, j ≤ ts.length ∧ i = .int .i64 j ∧ IntRow wr 0 a (((ts.take j).flatMap Term.parts).foldl Term.addVar z1) ∧ Frm [] W wr) (fun _ i _ => ts.length - (intOf i).toNat)
          case atStart => exact ⟨0, Nat.zero_le _, rfl, by simpa using (hr1), F1⟩
          case round =>
            obtain ⟨j, hj, rfl, hrow, FR⟩ := hrel
            obtain ⟨r0, r1, r2, r3, r4, r5⟩ := blk4 (FR.at0 hbx)
            by_cases hlt : j < ts.length
            · obtain ⟨b', off, A', cap', rfl, hb1, hb2, e0, e1, e2, e3, hkid⟩ := (hkW.keep FR).kid j hlt
              have HT := Lib.hid (take_succ_get hlt)
              have hfl := foldl_addVar_length ((ts.take j).flatMap Term.parts) z1
              rw [flat_length] at hfl
              have hsn := sizes_snoc hlt
              have hst := sizes_take ts (j + 1)
              have HM : Hid (ts[j] ∈ ts) := List.getElem_mem hlt
              generalize ts[j] = t at *
              have hsz2 : (((ts.take j).flatMap Term.parts).foldl Term.addVar z1).length + t.size ≤ 1048576 := by omega
              go_wp2_with (go_at_call 43; refine (IH.out t HM.out _ F _ _ _ (hkid.keep (by repeat (first | with_reducible (first | refine .alloc ?_ _ | refine .drewN ?_ _ | refine .drew ?_) | ((with_reducible refine .setCell ?_ ?_ _); rotate_left; focus (first | (left; simp; done) | (right; simp; (first | done | omega)))) | with_reducible (first | assumption | exact .refl _ _ | refine .trans0 ?_ ‹_›)))) (hrow.keep (by repeat (first | with_reducible (first | refine .alloc ?_ _ | refine .drewN ?_ _ | refine .drew ?_) | ((with_reducible refine .setCell ?_ ?_ _); rotate_left; focus (first | (left; simp; done) | (right; simp; (first | done | omega)))) | with_reducible (first | assumption | exact .refl _ _ | refine .trans0 ?_ ‹_›)))) hsz2).mono ?_; rintro e w3 ⟨⟨r, rfl, hr3⟩, F3⟩)
              go_roundw
              case rel => exact ⟨j + 1, by omega, by go_num, by rw [HT.out, List.flatMap_append, List.foldl_append]; simpa using hr3, (by repeat (first | with_reducible (first | refine .alloc ?_ _ | refine .drewN ?_ _ | refine .drew ?_) | ((with_reducible refine .setCell ?_ ?_ _); rotate_left; focus (first | (left; simp; done) | (right; simp; (first | done | omega)))) | with_reducible (first | assumption | exact .refl _ _ | refine .trans0 ?_ ‹_›)))⟩
              case measure => simp [intOf]; omega
            · have : j = ts.length := by omega
              subst this
              rw [List.take_length] at hrow
              go_wp2
              go_ret
              exact ⟨⟨_, rfl, hrow⟩, (by repeat (first | with_reducible (first | refine .alloc ?_ _ | refine .drewN ?_ _ | refine .drew ?_) | ((with_reducible refine .setCell ?_ ?_ _); rotate_left; focus (first | (left; simp; done) | (right; simp; (first | done | omega)))) | with_reducible (first | assumption | exact .refl _ _ | refine .trans0 ?_ ‹_›)))⟩
    · have HZ : Hid (z1 = zs) := by show _ = _; rw [HV.out, if_neg (fun h => h1 h.1)]
      have h1' : (k == 1) = false := by simpa using h1
      clear h1
      go_wp2
      go_loopw [0, 5] (fun a i wr => ∃ j : Nat, j ≤ ts.length ∧ i = .int .i64 j ∧ IntRow wr 0 a (((ts.take j).flatMap Term.parts).foldl Term.addVar z1) ∧ Frm [] W wr) (fun _ i _ => ts.length - (intOf i).toNat)
      case atStart => exact ⟨0, Nat.zero_le _, rfl, by simpa using (HZ.out ▸ hrW.keep (by repeat (first | with_reducible (first | refine .alloc ?_ _ | refine .drewN ?_ _ | refine .drew ?_) | ((with_reducible refine .setCell ?_ ?_ _); rotate_left; focus (first | (left; simp; done) | (right; simp; (first | done | omega)))) | with_reducible (first | assumption | exact .refl _ _ | refine .trans0 ?_ ‹_›)))), (by repeat (first | with_reducible (first | refine .alloc ?_ _ | refine .drewN ?_ _ | refine .drew ?_) | ((with_reducible refine .setCell ?_ ?_ _); rotate_left; focus (first | (left; simp; done) | (right; simp; (first | done | omega)))) | with_reducible (first | assumption | exact .refl _ _ | refine .trans0 ?_ ‹_›)))⟩
      case round =>
        obtain ⟨j, hj, rfl, hrow, FR⟩ := hrel
        obtain ⟨r0, r1, r2, r3, r4, r5⟩ := blk4 (FR.at0 hbx)
        by_cases hlt : j < ts.length
        · obtain ⟨b', off, A', cap', rfl, hb1, hb2, e0, e1, e2, e3, hkid⟩ := (hkW.keep FR).kid j hlt
          have HT := Lib.hid (take_succ_get hlt)
          have hfl := foldl_addVar_length ((ts.take j).flatMap Term.parts) z1
          rw [flat_length] at hfl
          have hsn := sizes_snoc hlt
          have hst := sizes_take ts (j + 1)
          have HM : Hid (ts[j] ∈ ts) := List.getElem_mem hlt
          generalize ts[j] = t at *
          have hsz2 : (((ts.take j).flatMap Term.parts).foldl Term.addVar z1).length + t.size ≤ 1048576 := by omega
          go_wp2_with (go_at_call 43; refine (IH.out t HM.out _ F _ _ _ (hkid.keep (by repeat (first | with_reducible (first | refine .alloc ?_ _ | refine .drewN ?_ _ | refine .drew ?_) | ((with_reducible refine .setCell ?_ ?_ _); rotate_left; focus (first | (left; simp; done) | (right; simp; (first | done | omega)))) | with_reducible (first | assumption | exact .refl _ _ | refine .trans0 ?_ ‹_›)))) (hrow.keep (by repeat (first | with_reducible (first | refine .alloc ?_ _ | refine .drewN ?_ _ | refine .drew ?_) | ((with_reducible refine .setCell ?_ ?_ _); rotate_left; focus (first | (left; simp; done) | (right; simp; (first | done | omega)))) | with_reducible (first | assumption | exact .refl _ _ | refine .trans0 ?_ ‹_›)))) hsz2).mono ?_; rintro e w3 ⟨⟨r, rfl, hr3⟩, F3⟩)
          go_roundw
          case rel => exact ⟨j + 1, by omega, by go_num, by rw [HT.out, List.flatMap_append, List.foldl_append]; simpa using hr3, (by repeat (first | with_reducible (first | refine .alloc ?_ _ | refine .drewN ?_ _ | refine .drew ?_) | ((with_reducible refine .setCell ?_ ?_ _); rotate_left; focus (first | (left; simp; done) | (right; simp; (first | done | omega)))) | with_reducible (first | assumption | exact .refl _ _ | refine .trans0 ?_ ‹_›)))⟩
          case measure => simp [intOf]; omega
        · have : j = ts.length := by omega
          subst this
          rw [List.take_length] at hrow
          go_wp2
          go_ret
          exact ⟨⟨_, rfl, hrow⟩, (by repeat (first | with_reducible (first | refine .alloc ?_ _ | refine .drewN ?_ _ | refine .drew ?_) | ((with_reducible refine .setCell ?_ ?_ _); rotate_left; focus (first | (left; simp; done) | (right; simp; (first | done | omega)))) | with_reducible (first | assumption | exact .refl _ _ | refine .trans0 ?_ ‹_›)))⟩
end Go.Proofs.YtkiofaojokofbaaGreat
