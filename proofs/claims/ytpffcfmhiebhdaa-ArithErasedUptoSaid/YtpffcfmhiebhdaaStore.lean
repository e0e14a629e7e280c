/- The layer store, first part: New, bound, Walk. -/
import Derived.Test.YtpffcfmhiebhdaaSealC
import Derived.Test.YtpffcfmhiebhdaaStoreMem
import Derived.WalkSpells
import Derived.WalkLawsBesides
import Derived.Deep.QuietTactic
import Derived.BigQuiet
import Derived.Deep.DeepCutAuto
import Derived.Deep.RegionHeld3
import Derived.Lib.Hide
import Derived.Handy
namespace Go.Proofs.Ytpffcfmhiebhdaa
open Go.RowKit

theorem store_new (F : List Nat) (w : World) (hF : ∀ b, b ∈ F → b < w.heap.size) :
    Calls Try.prog 12 #[] w fun e w' => e = .returned (.pointer (some ⟨w.heap.size, 0, none⟩)) ∧ StoreAt [w.heap.size] (w.heap.size :: F) w' w.heap.size .empty ∧ Frm [] w w' := by
  go_enter Try.func12, Try.ntmps12
  go_wp2
  go_ret
  refine ⟨rfl, ⟨.slice none 0 0, .slice none 0 0, [], (by repeat (first | rw [heap_alloc_at] | rw [heap_size_alloc] | rfl | rw [if_pos (by omega)] | rw [if_neg (by omega)])), ⟨rfl, none, 0, rfl, Nat.le_refl _, by decide, .inl ⟨rfl, rfl, rfl⟩⟩, ⟨rfl, none, 0, rfl, Nat.le_refl _, by decide, .inl ⟨rfl, rfl, rfl⟩⟩, ?_, PStore.empty_ok, rfl, by simp, ?_⟩, (by repeat (first | (with_reducible refine Frm.alloc ?_ _) | (with_reducible refine Frm.drewN ?_ _) | (with_reducible refine Frm.drew ?_) | ((with_reducible refine Frm.setCell ?_ ?_ _); rotate_left; (focus (first | (left; simp; done) | (right; simp; done) | (right; simp; omega)))) | with_reducible assumption | with_reducible exact Frm.refl _ _ | (with_reducible refine Frm.trans0 ?_ ‹_›)))⟩
  · intro j o h; simp [PStore.empty] at h
  · intro b hb
    rcases List.mem_cons.1 hb with rfl | hb
    · simp
    · have := hF b hb; simp; omega

theorem store_bound (G F F' : List Nat) (sb : Nat) (st : PStore) (t : Term) (v : Value) (w : World) (hs : StoreAt G F w sb st) (ht : TermV F' w t v) :
    Calls Try.prog 49 #[.pointer (some ⟨sb, 0, none⟩), v] w fun e w' => e = .returned (.bool (st.next t).isSome) ∧ Frm [] w w' := by
  obtain ⟨cv, tv, xs, h1, h2, h3, h4, h5, h6, h7, h8⟩ := hs
  obtain ⟨k, n, s, ts⟩ := t
  simp only [TermV] at ht
  obtain ⟨A, cap, rfl, hk1, hn1, hs1, hl1, hc, hc2, hk⟩ := ht
  obtain ⟨hn2, hn3⟩ := hn1
  have h2' := h2
  obtain ⟨hxl, A2, cap2, rfl, hcap1, hcap2, hrow⟩ := h2
  obtain ⟨s0, s1, _, hlt⟩ := blk2 h1
  have hmany := h5.many
  clear h1 h3 h5 h6 h7 h8
  have hb3 : sb < w.heap.size + 1 := by omega
  cases hk : (k == 1)
  · have hE : Hid (st.next (.mk k n s ts) = none) := by
      exact PStore.next_ne (by simpa using hk)
    go_enter Try.func49, Try.ntmps49
    go_wp2
    go_quiet (fail)
    go_wp2
    go_ret
    exact ⟨by rw [hE.out]; rfl, (by repeat (first | (with_reducible refine Frm.alloc ?_ _) | (with_reducible refine Frm.drewN ?_ _) | (with_reducible refine Frm.drew ?_) | ((with_reducible refine Frm.setCell ?_ ?_ _); rotate_left; (focus (first | (left; simp; done) | (right; simp; done) | (right; simp; omega)))) | with_reducible assumption | with_reducible exact Frm.refl _ _ | (with_reducible refine Frm.trans0 ?_ ‹_›)))⟩
  · have hk' : k = 1 := by simpa using hk
    subst hk'
    clear hk
    by_cases hn0 : 0 ≤ n
    · obtain ⟨m, rfl⟩ := Int.eq_ofNat_of_zero_le hn0
      clear hn0
      by_cases hm : m < st.cells.length
      · have hmi : (m : Int) < (st.cells.length : Int) := by omega
        obtain ⟨o, ho⟩ : ∃ o, st.cells[m]? = some o := ⟨_, List.getElem?_eq_getElem hm⟩
        obtain ⟨c0, c1, c2, c3, c4, e0, _, _, _, _, hcv⟩ := h4 m o ho
        obtain ⟨g, cap3, hsl, hcell, _⟩ := h2'.cell e0
        simp only [Value.slice.injEq, true_and] at hsl
        obtain ⟨rfl, rfl⟩ := hsl
        have hg := World.block_lt_of_cell? w _ hcell
        simp only at hg
        have hE : Hid (st.next (.mk 1 m s ts) = o) := by
          exact (PStore.next_var _ _ _ _).trans (PStore.get_in ho)
        clear h4 h2' hrow ho e0
        cases o with
        | none =>
          obtain ⟨rfl, _⟩ := hcv
          go_enter Try.func49, Try.ntmps49
          go_wp2
          go_quiet (fail)
          go_wp2
          go_ret
          exact ⟨by rw [hE.out]; rfl, (by repeat (first | (with_reducible refine Frm.alloc ?_ _) | (with_reducible refine Frm.drewN ?_ _) | (with_reducible refine Frm.drew ?_) | ((with_reducible refine Frm.setCell ?_ ?_ _); rotate_left; (focus (first | (left; simp; done) | (right; simp; done) | (right; simp; omega)))) | with_reducible assumption | with_reducible exact Frm.refl _ _ | (with_reducible refine Frm.trans0 ?_ ‹_›)))⟩
        | some u =>
          obtain ⟨rfl, _⟩ := hcv
          go_enter Try.func49, Try.ntmps49
          go_wp2
          go_quiet (fail)
          go_wp2
          go_ret
          exact ⟨by rw [hE.out]; rfl, (by repeat (first | (with_reducible refine Frm.alloc ?_ _) | (with_reducible refine Frm.drewN ?_ _) | (with_reducible refine Frm.drew ?_) | ((with_reducible refine Frm.setCell ?_ ?_ _); rotate_left; (focus (first | (left; simp; done) | (right; simp; done) | (right; simp; omega)))) | with_reducible assumption | with_reducible exact Frm.refl _ _ | (with_reducible refine Frm.trans0 ?_ ‹_›)))⟩
      · have hmi : decide ((m : Int) < (st.cells.length : Int)) = false := by simpa using hm
        have hE : Hid (st.next (.mk 1 m s ts) = none) := by
          exact (PStore.next_var _ _ _ _).trans (PStore.get_out hm)
        go_enter Try.func49, Try.ntmps49
        go_wp2
        go_quiet (fail)
        go_wp2
        go_ret
        exact ⟨by rw [hE.out]; rfl, (by repeat (first | (with_reducible refine Frm.alloc ?_ _) | (with_reducible refine Frm.drewN ?_ _) | (with_reducible refine Frm.drew ?_) | ((with_reducible refine Frm.setCell ?_ ?_ _); rotate_left; (focus (first | (left; simp; done) | (right; simp; done) | (right; simp; omega)))) | with_reducible assumption | with_reducible exact Frm.refl _ _ | (with_reducible refine Frm.trans0 ?_ ‹_›)))⟩
    · have hni : decide (0 ≤ n) = false := by simpa using hn0
      have hE : Hid (st.next (.mk 1 n s ts) = none) := by
        exact (PStore.next_var _ _ _ _).trans (PStore.get_neg hn0)
      go_enter Try.func49, Try.ntmps49
      go_wp2
      go_quiet (fail)
      go_wp2
      go_ret
      exact ⟨by rw [hE.out]; rfl, (by repeat (first | (with_reducible refine Frm.alloc ?_ _) | (with_reducible refine Frm.drewN ?_ _) | (with_reducible refine Frm.drew ?_) | ((with_reducible refine Frm.setCell ?_ ?_ _); rotate_left; (focus (first | (left; simp; done) | (right; simp; done) | (right; simp; omega)))) | with_reducible assumption | with_reducible exact Frm.refl _ _ | (with_reducible refine Frm.trans0 ?_ ‹_›)))⟩

set_option maxHeartbeats 1000000 in
theorem store_walk (G F : List Nat) (sb : Nat) (st : PStore) (t : Term) (v : Value) (w : World) (hs : StoreAt G F w sb st) (ht : TermV F w t v) :
    Calls Try.prog 41 #[.pointer (some ⟨sb, 0, none⟩), v] w fun e w' => (∃ v', e = .returned v' ∧ TermV F w' (st.walk t) v') ∧ Frm [] w w' := by
  have hF := hs
  obtain ⟨_, _, _, _, _, _, _, _, _, hGF, hF⟩ := hF
  obtain ⟨kk, hkk⟩ := hs.ok.wf t
  have hv2 := ht.away (F' := w.heap.size :: (w.heap.size + 1) :: F) (new_two (Nat.le_refl _) (by omega))
  obtain ⟨A, cap, rfl⟩ := ht.form
  go_enter Try.func41, Try.ntmps41
  go_wp2
  go_loopg [5] kk (fun g _ wr => ∃ T, st.next (st.walkN g T) = none ∧ st.walk t = st.walk T ∧ Frm [] w wr ∧ Boxed (w.heap.size :: (w.heap.size + 1) :: F) wr w.heap.size T ∧ wr.heap[w.heap.size + 1]? = some (.cells #[.int .i64 0, .int .i64 0, .string ⟨#[]⟩, .slice none 0 0] 35 (0, 0)))
  case atStart => exact ⟨t, hkk, rfl, (by repeat (first | (with_reducible refine Frm.alloc ?_ _) | (with_reducible refine Frm.drewN ?_ _) | (with_reducible refine Frm.drew ?_) | ((with_reducible refine Frm.setCell ?_ ?_ _); rotate_left; (focus (first | (left; simp; done) | (right; simp; done) | (right; simp; omega)))) | with_reducible assumption | with_reducible exact Frm.refl _ _ | (with_reducible refine Frm.trans0 ?_ ‹_›))), ⟨A, cap, (by repeat (first | rw [heap_alloc_at] | rw [heap_size_alloc] | rfl | rw [if_pos (by omega)] | rw [if_neg (by omega)])), hv2.keep (by repeat (first | (with_reducible refine Frm.alloc ?_ _) | (with_reducible refine Frm.drewN ?_ _) | (with_reducible refine Frm.drew ?_) | ((with_reducible refine Frm.setCell ?_ ?_ _); rotate_left; (focus (first | (left; simp; done) | (right; simp; done) | (right; simp; omega)))) | with_reducible assumption | with_reducible exact Frm.refl _ _ | (with_reducible refine Frm.trans0 ?_ ‹_›)))⟩, (by repeat (first | rw [heap_alloc_at] | rw [heap_size_alloc] | rfl | rw [if_pos (by omega)] | rw [if_neg (by omega)]))⟩
  case round =>
    obtain ⟨T, hend, hwalk, FR, ⟨A1, cap1, hbox, hT⟩, hbox1⟩ := hrel
    have HE := Lib.hid hend
    have HW := Lib.hid hwalk
    clear hend hwalk
    obtain ⟨q0, q1, q2, q3, q4, q5⟩ := blk4 hbox
    cases hn : st.next T with
    | none =>
      have HN : Hid ((st.next T).isSome = false) := by show _ = _; rw [hn]; rfl
      have HW2 : Hid (st.walk t = T) := by show _ = _; rw [HW.out, PStore.walk_free hn]
      clear hn
      go_wp2_with ((go_at_call 49; refine (store_bound G F _ sb st T _ _ (hs.keep (by repeat (first | (with_reducible refine Frm.alloc ?_ _) | (with_reducible refine Frm.drewN ?_ _) | (with_reducible refine Frm.drew ?_) | ((with_reducible refine Frm.setCell ?_ ?_ _); rotate_left; (focus (first | (left; simp; done) | (right; simp; done) | (right; simp; omega)))) | with_reducible assumption | with_reducible exact Frm.refl _ _ | (with_reducible refine Frm.trans0 ?_ ‹_›)))) (hT.keep (by repeat (first | (with_reducible refine Frm.alloc ?_ _) | (with_reducible refine Frm.drewN ?_ _) | (with_reducible refine Frm.drew ?_) | ((with_reducible refine Frm.setCell ?_ ?_ _); rotate_left; (focus (first | (left; simp; done) | (right; simp; done) | (right; simp; omega)))) | with_reducible assumption | with_reducible exact Frm.refl _ _ | (with_reducible refine Frm.trans0 ?_ ‹_›))))).mono ?_; rintro e w2 ⟨rfl, Fw2⟩; rw [HN.out]; obtain ⟨q0, q1, q2, q3, q4, q5⟩ := blk4 (Fw2.at0 hbox); obtain ⟨r0, r1, r2, r3, r4, r5⟩ := blk4 (Fw2.at0 hbox1)))
      refine bodyPost_ret (v := .agg #[.int .i64 T.kind, .int .i64 T.n, .string T.s, .slice A1 T.kids.length cap1]) (by simp [results, Try.results41, go_sem, r0, r1, r2, r3]) rfl ?_
      rw [HW2.out]
      exact ⟨⟨_, rfl, (hT.frm (G := [w.heap.size + 1]) (by repeat (first | (with_reducible refine Frm.alloc ?_ _) | (with_reducible refine Frm.drewN ?_ _) | (with_reducible refine Frm.drew ?_) | ((with_reducible refine Frm.setCell ?_ ?_ _); rotate_left; (focus (first | (left; simp; done) | (right; simp; done) | (right; simp; omega)))) | with_reducible assumption | with_reducible exact Frm.refl _ _ | (with_reducible refine Frm.trans0 ?_ ‹_›))) (by simp)).away (fun b hb => .inl (by simp [hb]))⟩, (by repeat (first | (with_reducible refine Frm.alloc ?_ _) | (with_reducible refine Frm.drewN ?_ _) | (with_reducible refine Frm.drew ?_) | ((with_reducible refine Frm.setCell ?_ ?_ _); rotate_left; (focus (first | (left; simp; done) | (right; simp; done) | (right; simp; omega)))) | with_reducible assumption | with_reducible exact Frm.refl _ _ | (with_reducible refine Frm.trans0 ?_ ‹_›)))⟩
    | some u =>
      obtain ⟨hk1, hn0, hmlt, hcell⟩ := PStore.next_lt hn
      obtain ⟨cv, tv, xs, h1, h2, h3, h4, h5, h6, h7, h8⟩ := hs
      have hs : StoreAt G F w sb st := ⟨cv, tv, xs, h1, h2, h3, h4, h5, h6, h7, h8⟩
      obtain ⟨g, cap2, c0, c1, c2, c3, c4, rfl, hg1, hg2, p0, p1, p2, p3, p4, hcv⟩ := StoreCell h2 h4 hcell
      obtain ⟨rfl, ⟨A3, cap3, rfl, rfl, rfl, rfl⟩, hu⟩ := hcv
      obtain ⟨s0, s1, s2, s3⟩ := blk2 h1
      have hgF : g ∈ F := h7 g (by rw [h6]; simp [hg1])
      have hsbF : sb ∈ F := h7 sb (by rw [h6]; simp)
      have hg3 := hF g hgF
      have hsb3 := hF sb hsbF
      have HK : Hid (∃ k, gk = k + 1 ∧ st.next (st.walkN k u) = none) := by
        cases gk with
        | zero => have := HE.out; simp only [PStore.walkN] at this; rw [hn] at this; cases this
        | succ k => exact ⟨k, rfl, by have := HE.out; rwa [PStore.walkN_some hn] at this⟩
      have HW2 : Hid (st.walk t = st.walk u) := by
        obtain ⟨k, _, hk⟩ := HK
        show _ = _; rw [HW.out, PStore.walk_step hn ⟨k, hk⟩]
      have HN : Hid ((st.next T).isSome = true) := by show _ = _; rw [hn]; rfl
      obtain ⟨tk, tn, tS, tts⟩ := T
      obtain ⟨uk, un, uS, uts⟩ := u
      simp only [Term.kind, Term.n, Term.s, Term.kids] at hu hk1 hn0 hmlt q0 q1 q2 q3 p0 p1 p2 p3 p4 hT hbox
      subst hk1
      obtain ⟨m, rfl⟩ := Int.eq_ofNat_of_zero_le hn0
      have hmi : (m : Int) < (st.cells.length : Int) := by simpa using hmlt
      have hto : ((m : Int)).toNat = m := rfl
      simp only [hto] at p0 p1 p2 p3 p4
      clear hn hn0 hcell hmlt hto h2 h3 h4 h5 h6 h7 h8
      go_wp2_with ((go_at_call 49; refine (store_bound G F _ sb st _ _ _ (hs.keep (by repeat (first | (with_reducible refine Frm.alloc ?_ _) | (with_reducible refine Frm.drewN ?_ _) | (with_reducible refine Frm.drew ?_) | ((with_reducible refine Frm.setCell ?_ ?_ _); rotate_left; (focus (first | (left; simp; done) | (right; simp; done) | (right; simp; omega)))) | with_reducible assumption | with_reducible exact Frm.refl _ _ | (with_reducible refine Frm.trans0 ?_ ‹_›)))) (hT.keep (by repeat (first | (with_reducible refine Frm.alloc ?_ _) | (with_reducible refine Frm.drewN ?_ _) | (with_reducible refine Frm.drew ?_) | ((with_reducible refine Frm.setCell ?_ ?_ _); rotate_left; (focus (first | (left; simp; done) | (right; simp; done) | (right; simp; omega)))) | with_reducible assumption | with_reducible exact Frm.refl _ _ | (with_reducible refine Frm.trans0 ?_ ‹_›))))).mono ?_; rintro e w2 ⟨rfl, Fw2⟩; rw [HN.out]; obtain ⟨q0, q1, q2, q3, q4, q5⟩ := blk4 (Fw2.at0 hbox); have FW := FR.trans0 Fw2; replace s0 := (FW.cell s3 (by simp)).trans s0; replace p1 := (FW.cell hg2 (by simp)).trans p1; replace p2 := (FW.cell hg2 (by simp)).trans p2; replace p3 := (FW.cell hg2 (by simp)).trans p3; replace p4 := (FW.cell hg2 (by simp)).trans p4))
      go_region
      go_wp2
      obtain ⟨k, hk, hend⟩ := HK.out
      go_roundg k
      case measure => omega
      case rel =>
        refine ⟨.mk uk un uS uts, hend, HW2.out, (by repeat (first | (with_reducible refine Frm.alloc ?_ _) | (with_reducible refine Frm.drewN ?_ _) | (with_reducible refine Frm.drew ?_) | ((with_reducible refine Frm.setCell ?_ ?_ _); rotate_left; (focus (first | (left; simp; done) | (right; simp; done) | (right; simp; omega)))) | with_reducible assumption | with_reducible exact Frm.refl _ _ | (with_reducible refine Frm.trans0 ?_ ‹_›))), ⟨A3, cap3, box_store4 (Fw2.at0 hbox) _ _ _ _, ?_⟩, ?_⟩
        · exact ((hu.away (F' := w.heap.size :: (w.heap.size + 1) :: F) (new_two (Nat.le_refl _) (by omega))).keep FW).frm (G := [w.heap.size]) (by repeat (first | (with_reducible refine Frm.alloc ?_ _) | (with_reducible refine Frm.drewN ?_ _) | (with_reducible refine Frm.drew ?_) | ((with_reducible refine Frm.setCell ?_ ?_ _); rotate_left; (focus (first | (left; simp; done) | (right; simp; done) | (right; simp; omega)))) | with_reducible assumption | with_reducible exact Frm.refl _ _ | (with_reducible refine Frm.trans0 ?_ ‹_›))) (by simp)
        · show (World.setCell _ _ _).heap[_]? = _
          repeat rw [Below.heap_setCell _ _ _ _ (by simp)]
          exact Fw2.at0 hbox1
end Go.Proofs.Ytpffcfmhiebhdaa
