/- What ev answers, worked out. -/
import Derived.Test.YtpffcfmhiebhdaaLawEv
import Derived.WalkSpells
import Derived.WalkLawsBesides
import Derived.Deep.QuietTactic
import Derived.BigQuiet
import Derived.Deep.DeepCutAuto
import Derived.Deep.RegionHeld3
import Derived.Lib.Hide
import Derived.Handy
namespace Go.Proofs.Ytpffcfmhiebhdaa
open Go.RowKit

theorem one_bottom : Lat.one.bottom = 0 := by decide
theorem one_join : Lat.one.join 0 0 = 0 := by decide
theorem one_open {t : Term} (h : t.sealOf = false) : Lat.one.opened (PStore.empty.walk t) = (t, 0) := by
  have hw : PStore.empty.walk t = t := rfl
  rw [hw, Lat.opened, h, one_bottom]; rfl
theorem one_step {d m : Nat} {k n : Int} {s : ByteArray} {ts : List Term} (hm : ¬2000 < m + 1) (h : (Term.mk k n s ts).sealOf = false) :
    evalT Lat.one .empty (d + 1) m (.mk k n s ts) 0 = evalB (evalT Lat.one .empty d) (m + 1) 0 k n s ts := by
  rw [evalT_succ _ _ _ _ _ _ hm, one_open h, one_join]; rfl
theorem one_num (d m : Nat) (a : Int) (hm : ¬2000 < m + 1) : evalT Lat.one .empty (d + 1) m (numT a) 0 = (.ok a, 0, m + 1) := by
  rw [numT, one_step hm rfl]
  exact evalB_int _ _ _ _ _ _
theorem evV_two {s : ByteArray} (a b : Int) (hk : Arith.known s 2 = true) : evV s a b = match Arith.two s a b with | .ok n => (n, 0, 0) | .error c => (0, 0, c) := by
  have h3 : evalT Lat.one .empty (1999 + 1) 0 (.mk 3 0 s [numT a, numT b]) 0 = (Arith.two s a b, 0, 3) := by
    rw [one_step (by decide) rfl]
    exact evalB_two _ _ _ _ _ _ hk rfl (one_num 1998 1 a (by decide)) (one_num 1998 2 b (by decide))
  rw [evV, evalS, one_bottom, show (2000 : Nat) = 1999 + 1 from rfl, h3]
  cases Arith.two s a b <;> rfl
section
variable (a b : Int)
theorem ev_plus : evV ⟨#[43]⟩ a b = match Arith.plus a b with | .ok n => (n, 0, 0) | .error c => (0, 0, c) := evV_two a b (by decide)
theorem ev_minus : evV ⟨#[45]⟩ a b = match Arith.fit (a - b) with | .ok n => (n, 0, 0) | .error c => (0, 0, c) := evV_two a b (by decide)
theorem ev_times : evV ⟨#[42]⟩ a b = match Arith.times a b with | .ok n => (n, 0, 0) | .error c => (0, 0, c) := evV_two a b (by decide)
theorem ev_over : evV ⟨#[47, 47]⟩ a b = match Arith.over a b with | .ok n => (n, 0, 0) | .error c => (0, 0, c) := evV_two a b (by decide)
theorem ev_mod : evV ⟨#[109, 111, 100]⟩ a b = match Arith.mod a b with | .ok n => (n, 0, 0) | .error c => (0, 0, c) := evV_two a b (by decide)
end
theorem fit_ok {n : Int} (h : I64 n) : Arith.fit n = .ok n := if_pos h
theorem fit_no {n : Int} (h : ¬ I64 n) : Arith.fit n = .error 10 := if_neg h

theorem law_ev_is {s : ByteArray} {a b p l c : Int} (h : evV s a b = (p, l, c)) (w : World) (ha : I64 a) (hb : I64 b) (hs : s.size ≤ 1048576) :
    Calls Try.prog 10 #[.string s, .int .i64 a, .int .i64 b] w fun e w' => e = .returned (.tuple #[.int .i64 p, .int .i64 c]) ∧ Frm [] w w' := by
  have k := law_ev s a b w ha hb hs
  rw [h] at k
  exact k
end Go.Proofs.Ytpffcfmhiebhdaa
