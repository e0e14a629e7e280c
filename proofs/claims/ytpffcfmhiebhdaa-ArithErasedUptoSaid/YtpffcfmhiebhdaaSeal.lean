/- The layer seal: what each call answers. -/
import Derived.Test.YtpffcfmhiebhdaaLatt
import Derived.Test.YtpffcfmhiebhdaaTermMem
import Derived.WalkSpells
import Derived.WalkLawsBesides
import Derived.Deep.QuietTactic
import Derived.BigQuiet
import Derived.Deep.DeepCutAuto
import Derived.Deep.RegionHeld3
import Derived.Lib.Hide
import Derived.Handy
namespace Go.Proofs.Ytpffcfmhiebhdaa
open Go.RowKit

theorem seal_is (F : List Nat) (t : Term) (v : Value) (w : World) (h : TermV F w t v) :
    Calls Try.prog 37 #[v] w fun e w' => e = .returned (.bool t.sealOf) ∧ Frm [] w w' := by
  obtain ⟨k, n, s, ts⟩ := t
  simp only [TermV] at h
  obtain ⟨A, cap, rfl, _, _, _, hl, hc, _, _⟩ := h
  cases h1 : (k == 4)
  · go_enter Try.func37, Try.ntmps37
    go_wp2
    go_ret
    exact ⟨by simp [Term.sealOf, Term.kind, h1], (Frm.refl _ _).alloc _⟩
  · cases h2 : ((ts.length : Int) == 1)
    · go_enter Try.func37, Try.ntmps37
      go_wp2
      go_ret
      refine ⟨?_, (Frm.refl _ _).alloc _⟩
      have : (ts.length == 1) = false := by rw [beq_eq_false_iff_ne] at h2 ⊢; omega
      simp [Term.sealOf, Term.kind, Term.kids, h1, this]
    · go_enter Try.func37, Try.ntmps37
      go_wp2
      go_ret
      refine ⟨?_, (Frm.refl _ _).alloc _⟩
      have : (ts.length == 1) = true := by rw [beq_iff_eq] at h2 ⊢; omega
      simp [Term.sealOf, Term.kind, Term.kids, h1, this]

theorem seal_level (F : List Nat) (l : Lat) (b : Nat) (t : Term) (v : Value) (w : World) (hl : LatAt w b l) (h : TermV F w t v) :
    Calls Try.prog 39 #[.pointer (some ⟨b, 0, none⟩), v] w fun e w' => e = .returned (.int .i64 (l.level t.n)) ∧ Frm [] w w' := by
  obtain ⟨k, n, s, ts⟩ := t
  simp only [TermV] at h
  obtain ⟨A, cap, rfl, _, hn, _, _, _, _, _⟩ := h
  unfold I64 at hn
  obtain ⟨hn1, hn2⟩ := hn
  by_cases h1 : n < 0
  · go_enter Try.func39, Try.ntmps39
    go_wp2
    go_quiet (fail)
    go_wp2_with ((go_at_call 48; refine (lat_top l b _ (hl.frm0 (by repeat (first | (with_reducible refine Frm.alloc ?_ _) | (with_reducible refine Frm.drewN ?_ _) | (with_reducible refine Frm.drew ?_) | ((with_reducible refine Frm.setCell ?_ ?_ _); rotate_left; (focus (first | (left; simp; done) | (right; simp; done) | (right; simp; omega)))) | with_reducible assumption | with_reducible exact Frm.refl _ _ | (with_reducible refine Frm.trans0 ?_ ‹_›))))).mono ?_; rintro e w' ⟨rfl, rfl⟩))
    go_ret
    exact ⟨by simp [Lat.level, Term.n, h1], (by repeat (first | (with_reducible refine Frm.alloc ?_ _) | (with_reducible refine Frm.drewN ?_ _) | (with_reducible refine Frm.drew ?_) | ((with_reducible refine Frm.setCell ?_ ?_ _); rotate_left; (focus (first | (left; simp; done) | (right; simp; done) | (right; simp; omega)))) | with_reducible assumption | with_reducible exact Frm.refl _ _ | (with_reducible refine Frm.trans0 ?_ ‹_›)))⟩
  · have h1' : decide (n < 0) = false := by simpa using h1
    by_cases h2 : (l.n : Int) ≤ n
    · go_enter Try.func39, Try.ntmps39
      go_wp2
      go_quiet ((go_at_call 38; exact quiet_eq (lat_len l b _ (hl.frm0 (by repeat (first | (with_reducible refine Frm.alloc ?_ _) | (with_reducible refine Frm.drewN ?_ _) | (with_reducible refine Frm.drew ?_) | ((with_reducible refine Frm.setCell ?_ ?_ _); rotate_left; (focus (first | (left; simp; done) | (right; simp; done) | (right; simp; omega)))) | with_reducible assumption | with_reducible exact Frm.refl _ _ | (with_reducible refine Frm.trans0 ?_ ‹_›)))))))
      go_wp2_with ((go_at_call 48; refine (lat_top l b _ (hl.frm0 (by repeat (first | (with_reducible refine Frm.alloc ?_ _) | (with_reducible refine Frm.drewN ?_ _) | (with_reducible refine Frm.drew ?_) | ((with_reducible refine Frm.setCell ?_ ?_ _); rotate_left; (focus (first | (left; simp; done) | (right; simp; done) | (right; simp; omega)))) | with_reducible assumption | with_reducible exact Frm.refl _ _ | (with_reducible refine Frm.trans0 ?_ ‹_›))))).mono ?_; rintro e w' ⟨rfl, rfl⟩))
      go_ret
      exact ⟨by simp [Lat.level, Term.n, h2], (by repeat (first | (with_reducible refine Frm.alloc ?_ _) | (with_reducible refine Frm.drewN ?_ _) | (with_reducible refine Frm.drew ?_) | ((with_reducible refine Frm.setCell ?_ ?_ _); rotate_left; (focus (first | (left; simp; done) | (right; simp; done) | (right; simp; omega)))) | with_reducible assumption | with_reducible exact Frm.refl _ _ | (with_reducible refine Frm.trans0 ?_ ‹_›)))⟩
    · have h2' : n < (l.n : Int) := by omega
      go_enter Try.func39, Try.ntmps39
      go_wp2
      go_quiet ((go_at_call 38; exact quiet_eq (lat_len l b _ (hl.frm0 (by repeat (first | (with_reducible refine Frm.alloc ?_ _) | (with_reducible refine Frm.drewN ?_ _) | (with_reducible refine Frm.drew ?_) | ((with_reducible refine Frm.setCell ?_ ?_ _); rotate_left; (focus (first | (left; simp; done) | (right; simp; done) | (right; simp; omega)))) | with_reducible assumption | with_reducible exact Frm.refl _ _ | (with_reducible refine Frm.trans0 ?_ ‹_›)))))))
      go_wp2
      go_ret
      exact ⟨ret_int (if_neg (show ¬ (n < 0 ∨ (l.n : Int) ≤ n) by omega)).symm, (by repeat (first | (with_reducible refine Frm.alloc ?_ _) | (with_reducible refine Frm.drewN ?_ _) | (with_reducible refine Frm.drew ?_) | ((with_reducible refine Frm.setCell ?_ ?_ _); rotate_left; (focus (first | (left; simp; done) | (right; simp; done) | (right; simp; omega)))) | with_reducible assumption | with_reducible exact Frm.refl _ _ | (with_reducible refine Frm.trans0 ?_ ‹_›)))⟩

theorem KidsV.one {F : List Nat} {w : World} {b : Nat} {c0 c1 c2 c3 : Value} {ty : TypeId} {fz : Nat × Nat} {t : Term} (hb : w.heap[b]? = some (.cells #[c0, c1, c2, c3] ty fz)) (hF : b ∉ F)
    (ht : TermV F w t (.agg #[c0, c1, c2, c3])) : KidsV F w [t] (some ⟨b, 0, none⟩) 0 := by
  simp only [KidsV]
  exact ⟨⟨b, 0, c0, c1, c2, c3, rfl, hF, by simp [World.cell?, hb], by simp [World.cell?, hb], by simp [World.cell?, hb], by simp [World.cell?, hb], ht⟩, trivial⟩

theorem seal_put (F : List Nat) (t : Term) (v : Value) (n : Int) (w : World) (h : TermV F w t v) (hn : I64 n) (hF : ∀ b, b ∈ F → b < w.heap.size) :
    Calls Try.prog 24 #[v, .int .i64 n] w fun e w' => (∃ v', e = .returned v' ∧ TermV F w' (t.put n) v') ∧ Frm [] w w' := by
  have hv := h
  obtain ⟨k, m, s, ts⟩ := t
  simp only [TermV] at h
  obtain ⟨A, cap, rfl, _⟩ := h
  go_enter Try.func24, Try.ntmps24
  go_wp2
  refine bodyPost_ret (v := .agg #[.int .i64 4, .int .i64 n, .string ⟨#[]⟩, .slice (some ⟨w.heap.size + 1 + 1, 0, none⟩) 1 1]) (by simp [results, Try.results24, go_sem]) rfl ⟨⟨_, rfl, ?_⟩, (by repeat (first | (with_reducible refine Frm.alloc ?_ _) | (with_reducible refine Frm.drewN ?_ _) | (with_reducible refine Frm.drew ?_) | ((with_reducible refine Frm.setCell ?_ ?_ _); rotate_left; (focus (first | (left; simp; done) | (right; simp; done) | (right; simp; omega)))) | with_reducible assumption | with_reducible exact Frm.refl _ _ | (with_reducible refine Frm.trans0 ?_ ‹_›)))⟩
  have hFz : w.heap.size + 1 + 1 ∉ F := fun hx => by have := hF _ hx; omega
  exact TermV.mk' (ts := [.mk k m s ts]) (by unfold I64; omega) hn (by simp) (by simp) (by simp) (by simp) (KidsV.one (by repeat (first | rw [heap_alloc_at] | rw [heap_size_alloc] | rfl | rw [if_pos (by omega)] | rw [if_neg (by omega)])) hFz (hv.keep (by repeat (first | (with_reducible refine Frm.alloc ?_ _) | (with_reducible refine Frm.drewN ?_ _) | (with_reducible refine Frm.drew ?_) | ((with_reducible refine Frm.setCell ?_ ?_ _); rotate_left; (focus (first | (left; simp; done) | (right; simp; done) | (right; simp; omega)))) | with_reducible assumption | with_reducible exact Frm.refl _ _ | (with_reducible refine Frm.trans0 ?_ ‹_›)))))
theorem Lat.joinTs_snoc (l : Lat) (a : Int) (ts : List Term) (t : Term) : l.joinTs a (ts ++ [t]) = l.join (l.joinTs a ts) (l.joinT t) := by
  induction ts generalizing a with
  | nil => rfl
  | cons x xs ih => simp [Lat.joinTs, ih]
theorem take_succ_get {α : Type} {ts : List α} {j : Nat} (h : j < ts.length) : ts.take (j + 1) = ts.take j ++ [ts[j]] := by
  rw [List.take_succ_eq_append_getElem h]

theorem seal_join (l : Lat) (b : Nat) : ∀ (t : Term) (F : List Nat) (v : Value) (w : World), LatAt w b l → TermV F w t v →
    Calls Try.prog 23 #[.pointer (some ⟨b, 0, none⟩), v] w fun e w' => e = .returned (.int .i64 (l.joinT t)) ∧ Frm [] w w' := by
  intro t
  induction t using Term.induct with
  | h k n s ts ih =>
    intro F v w hl h
    have hv := h
    have IH := Lib.hid ih
    clear ih
    simp only [TermV] at h
    obtain ⟨A, cap, rfl, _, _, _, hl1, hc, hc2, hk⟩ := h
    have H0 : Hid (l.joinT (.mk k n s ts) = l.joinTs (if k == 4 then l.level n else l.bottom) ts) := rfl
    cases h1 : (k == 4)
    all_goals
      go_enter Try.func23, Try.ntmps23
      go_wp2_with (first | (go_at_call 22; refine (lat_bottom l b _ (hl.frm0 (by repeat (first | (with_reducible refine Frm.alloc ?_ _) | (with_reducible refine Frm.drewN ?_ _) | (with_reducible refine Frm.drew ?_) | ((with_reducible refine Frm.setCell ?_ ?_ _); rotate_left; (focus (first | (left; simp; done) | (right; simp; done) | (right; simp; omega)))) | with_reducible assumption | with_reducible exact Frm.refl _ _ | (with_reducible refine Frm.trans0 ?_ ‹_›))))).mono ?_; rintro e w' ⟨rfl, rfl⟩) | (go_at_call 39; refine (seal_level F l b _ _ _ (hl.frm0 (by repeat (first | (with_reducible refine Frm.alloc ?_ _) | (with_reducible refine Frm.drewN ?_ _) | (with_reducible refine Frm.drew ?_) | ((with_reducible refine Frm.setCell ?_ ?_ _); rotate_left; (focus (first | (left; simp; done) | (right; simp; done) | (right; simp; omega)))) | with_reducible assumption | with_reducible exact Frm.refl _ _ | (with_reducible refine Frm.trans0 ?_ ‹_›)))) (hv.keep (by repeat (first | (with_reducible refine Frm.alloc ?_ _) | (with_reducible refine Frm.drewN ?_ _) | (with_reducible refine Frm.drew ?_) | ((with_reducible refine Frm.setCell ?_ ?_ _); rotate_left; (focus (first | (left; simp; done) | (right; simp; done) | (right; simp; omega)))) | with_reducible assumption | with_reducible exact Frm.refl _ _ | (with_reducible refine Frm.trans0 ?_ ‹_›))))).mono ?_; rintro e w1 ⟨rfl, Fw1⟩; obtain ⟨hcw1, hfw1⟩ := Fw1.reads))
      go_loopw [5, 19] (fun a i wr => ∃ j : Nat, j ≤ ts.length ∧ i = .int .i64 j ∧ Frm [] w wr ∧ a = .int .i64 (l.joinTs (if k == 4 then l.level n else l.bottom) (ts.take j))) (fun _ i _ => ts.length - (intOf i).toNat)
      case atStart => exact ⟨0, Nat.zero_le _, rfl, (by repeat (first | (with_reducible refine Frm.alloc ?_ _) | (with_reducible refine Frm.drewN ?_ _) | (with_reducible refine Frm.drew ?_) | ((with_reducible refine Frm.setCell ?_ ?_ _); rotate_left; (focus (first | (left; simp; done) | (right; simp; done) | (right; simp; omega)))) | with_reducible assumption | with_reducible exact Frm.refl _ _ | (with_reducible refine Frm.trans0 ?_ ‹_›))), by rw [h1]; rfl⟩
      case round =>
        obtain ⟨j, hj, rfl, hF, rfl⟩ := hrel
        by_cases hlt : j < ts.length
        · obtain ⟨b', off, A', cap', rfl, hb1, hb2, e0, e1, e2, e3, hkid⟩ := (hk.keep hF).kid j hlt
          have HT := Lib.hid (take_succ_get hlt)
          have HM : Hid (ts[j] ∈ ts) := List.getElem_mem hlt
          have HS := Lib.hid (Lat.joinTs_snoc l (if k == 4 then l.level n else l.bottom) (ts.take j) ts[j])
          generalize ts[j] = t at *
          generalize l.joinTs (if k == 4 then l.level n else l.bottom) (ts.take j) = acc at *
          go_wp2_with (first | (go_at_call 23; refine (IH.out t HM.out F _ _ (hl.frm0 (by repeat (first | (with_reducible refine Frm.alloc ?_ _) | (with_reducible refine Frm.drewN ?_ _) | (with_reducible refine Frm.drew ?_) | ((with_reducible refine Frm.setCell ?_ ?_ _); rotate_left; (focus (first | (left; simp; done) | (right; simp; done) | (right; simp; omega)))) | with_reducible assumption | with_reducible exact Frm.refl _ _ | (with_reducible refine Frm.trans0 ?_ ‹_›)))) (hkid.keep (by repeat (first | (with_reducible refine Frm.alloc ?_ _) | (with_reducible refine Frm.drewN ?_ _) | (with_reducible refine Frm.drew ?_) | ((with_reducible refine Frm.setCell ?_ ?_ _); rotate_left; (focus (first | (left; simp; done) | (right; simp; done) | (right; simp; omega)))) | with_reducible assumption | with_reducible exact Frm.refl _ _ | (with_reducible refine Frm.trans0 ?_ ‹_›))))).mono ?_; rintro e w2 ⟨rfl, Fw2⟩; obtain ⟨hcw2, hfw2⟩ := Fw2.reads) | (go_at_call 27; refine (lat_join l b _ _ _ (hl.frm0 (by repeat (first | (with_reducible refine Frm.alloc ?_ _) | (with_reducible refine Frm.drewN ?_ _) | (with_reducible refine Frm.drew ?_) | ((with_reducible refine Frm.setCell ?_ ?_ _); rotate_left; (focus (first | (left; simp; done) | (right; simp; done) | (right; simp; omega)))) | with_reducible assumption | with_reducible exact Frm.refl _ _ | (with_reducible refine Frm.trans0 ?_ ‹_›))))).mono ?_; rintro e w3 ⟨rfl, ⟨d3, rfl⟩⟩))
          go_roundw
          case rel =>
            exact ⟨j + 1, by omega, by go_num, (by repeat (first | (with_reducible refine Frm.alloc ?_ _) | (with_reducible refine Frm.drewN ?_ _) | (with_reducible refine Frm.drew ?_) | ((with_reducible refine Frm.setCell ?_ ?_ _); rotate_left; (focus (first | (left; simp; done) | (right; simp; done) | (right; simp; omega)))) | with_reducible assumption | with_reducible exact Frm.refl _ _ | (with_reducible refine Frm.trans0 ?_ ‹_›))), by rw [HT.out, HS.out]⟩
          case measure => simp [intOf]; omega
        · have : j = ts.length := by omega
          subst this
          go_wp2
          go_ret
          exact ⟨ret_int (by rw [H0.out, h1]; rfl), hF⟩
end Go.Proofs.Ytpffcfmhiebhdaa
