import Derived.Test.YtgadaeodoapgiaaLa
import Derived.KernelRfl
namespace Go.Proofs.Ytgadaeodoapgiaa
open Vc Go
set_option linter.unusedVariables false
set_option maxRecDepth 100000
def tellCut (b f m : Int) : LI where
  α := {s : Nat × List (List Value) × Int // (rightR b f m = true → s = (pcN f m, pcs f m (pcN f m), 0)) ∧ (rightR b f m = false → s = (0, [], 5))}
  live := [0, 1, 2, 7, 8]
  nils := [.slot 3 29 4]
  st s := ([.int .i64 b, .int .i64 f, .int .i64 m, .sl 0 0 s.1.1, .int .i64 s.1.2.2], [.row 29 4 s.1.2.1])
  μ s := 0
def tellT (b f m : Int) : FuncId → Nat → Option LI
  | 4, 1005 => some (tellCut b f m)
  | 4, 11 => some (tellLI b f m)
  | _, _ => none
noncomputable def XT (b f m : Int) : CallT := callS Try.prog stripeS (tellT b f m) 10
theorem vc4 (b f m : Int)  (h :
 (rightR b f m = true →
 (-9223372036854775808 ≤ f ∧ f ≤ 9223372036854775807) ∧
 ((-9223372036854775808 ≤ b ∧ b ≤ 9223372036854775807) ∧
 (-9223372036854775808 ≤ b ∧ b ≤ 9223372036854775807) ∧
 ((cnt b != cnt b) = true → False) ∧
 ((cnt b != cnt b) = false →
 (decide (f ≥ 0) = true →
 ((whC f != IntKind.i64.wrap (f.tdiv 8)) = true → False) ∧
 ((whC f != IntKind.i64.wrap (f.tdiv 8)) = false →
 ((whA f != f.tmod 8) = true → False) ∧
 ((whA f != f.tmod 8) = false →
 (decide (f < 0) = true → ((whC f != 0) = true → False) ∧ ((whC f != 0) = false → ((whA f != 0) = true → False) ∧ ((whA f != 0) = false → ∃ i, ([V.int IntKind.i64 b, V.int IntKind.i64 f, V.int IntKind.i64 m, V.sl 0 0 (pcN f m), V.int IntKind.i64 0], [KO.row 29 4 (pcs f m (pcN f m))]) = (tellCut b f m).st i))) ∧
 (decide (f < 0) = false → ∃ i, ([V.int IntKind.i64 b, V.int IntKind.i64 f, V.int IntKind.i64 m, V.sl 0 0 (pcN f m), V.int IntKind.i64 0], [KO.row 29 4 (pcs f m (pcN f m))]) = (tellCut b f m).st i)))) ∧
 (decide (f ≥ 0) = false →
 (decide (f < 0) = true → ((whC f != 0) = true → False) ∧ ((whC f != 0) = false → ((whA f != 0) = true → False) ∧ ((whA f != 0) = false → ∃ i, ([V.int IntKind.i64 b, V.int IntKind.i64 f, V.int IntKind.i64 m, V.sl 0 0 (pcN f m), V.int IntKind.i64 0], [KO.row 29 4 (pcs f m (pcN f m))]) = (tellCut b f m).st i))) ∧
 (decide (f < 0) = false → ∃ i, ([V.int IntKind.i64 b, V.int IntKind.i64 f, V.int IntKind.i64 m, V.sl 0 0 (pcN f m), V.int IntKind.i64 0], [KO.row 29 4 (pcs f m (pcN f m))]) = (tellCut b f m).st i)))) ∧
 ∀ (i : (tellCut b f m).α),
 ((!rightR b f m) = true → ((i.val.snd.snd == 5) = true → (((↑(i.val.fst - 0) : Int) == 0) = true → true = true) ∧ (((↑(i.val.fst - 0) : Int) == 0) = false → False)) ∧ ((i.val.snd.snd == 5) = false → False)) ∧
 ((!rightR b f m) = false →
 (0 ≤ f ∧ f ≤ 512 ∧ 1 ≤ m ∧ m ≤ 512) ∧
 ((i.val.snd.snd != 0) = true → False) ∧
 ((i.val.snd.snd != 0) = false →
 (((↑(i.val.fst - 0) : Int) != (↑(pcN f m - 0) : Int)) = true → False) ∧
 (((↑(i.val.fst - 0) : Int) != (↑(pcN f m - 0) : Int)) = false →
 (∃ i_1, ([V.sl 0 0 i.val.fst, V.sl 1 0 (pcN f m), V.int IntKind.i64 0], [KO.row 29 4 i.val.snd.fst, KO.row 29 4 (pcs f m (pcN f m))]) = (tellLI b f m).st i_1) ∧
 ∀ (i : (tellLI b f m).α),
 (decide ((↑i.val : Int) < (↑(pcN f m - 0) : Int)) = true →
 InB (↑i.val : Int) (pcN f m - 0) ∧
 ∃ e,
 (pcs f m (pcN f m))[0 + (↑i.val : Int).toNat]? = some e ∧
 ∃ n,
 e[0]? = some (Value.int IntKind.i64 n) ∧
 ∃ n_1,
 e[1]? = some (Value.int IntKind.i64 n_1) ∧
 ∃ n_2,
 e[2]? = some (Value.int IntKind.i64 n_2) ∧
 ∃ n_3,
 e[3]? = some (Value.int IntKind.i64 n_3) ∧
 InB (↑i.val : Int) (pcN f m - 0) ∧
 ∃ e,
 (pcs f m (pcN f m))[0 + (↑i.val : Int).toNat]? = some e ∧
 ∃ n_4,
 e[0]? = some (Value.int IntKind.i64 n_4) ∧
 ∃ n_5,
 e[1]? = some (Value.int IntKind.i64 n_5) ∧
 ∃ n_6,
 e[2]? = some (Value.int IntKind.i64 n_6) ∧
 ∃ n_7,
 e[3]? = some (Value.int IntKind.i64 n_7) ∧
 ((!(n == n_4 && (n_1 == n_5 && (n_2 == n_6 && (n_3 == n_7 && true))))) = true → False) ∧
 ((!(n == n_4 && (n_1 == n_5 && (n_2 == n_6 && (n_3 == n_7 && true))))) = false →
 ∃ j, ([V.sl 0 0 (pcN f m), V.sl 1 0 (pcN f m), V.int IntKind.i64 (IntKind.i64.wrap ((↑i.val : Int) + 1))], [KO.row 29 4 (pcs f m (pcN f m)), KO.row 29 4 (pcs f m (pcN f m))]) = (tellLI b f m).st j ∧ (tellLI b f m).μ j < (tellLI b f m).μ i)) ∧
 (decide ((↑i.val : Int) < (↑(pcN f m - 0) : Int)) = false → true = true))))) ∧
 (rightR b f m = false →
 (-9223372036854775808 ≤ f ∧ f ≤ 9223372036854775807) ∧
 ((-9223372036854775808 ≤ b ∧ b ≤ 9223372036854775807) ∧
 (-9223372036854775808 ≤ b ∧ b ≤ 9223372036854775807) ∧
 ((cnt b != cnt b) = true → False) ∧
 ((cnt b != cnt b) = false →
 (decide (f ≥ 0) = true →
 ((whC f != IntKind.i64.wrap (f.tdiv 8)) = true → False) ∧
 ((whC f != IntKind.i64.wrap (f.tdiv 8)) = false →
 ((whA f != f.tmod 8) = true → False) ∧
 ((whA f != f.tmod 8) = false →
 (decide (f < 0) = true → ((whC f != 0) = true → False) ∧ ((whC f != 0) = false → ((whA f != 0) = true → False) ∧ ((whA f != 0) = false → ∃ i, ([V.int IntKind.i64 b, V.int IntKind.i64 f, V.int IntKind.i64 m, V.sl 0 0 0, V.int IntKind.i64 5], [KO.row 29 4 []]) = (tellCut b f m).st i))) ∧
 (decide (f < 0) = false → ∃ i, ([V.int IntKind.i64 b, V.int IntKind.i64 f, V.int IntKind.i64 m, V.sl 0 0 0, V.int IntKind.i64 5], [KO.row 29 4 []]) = (tellCut b f m).st i)))) ∧
 (decide (f ≥ 0) = false →
 (decide (f < 0) = true → ((whC f != 0) = true → False) ∧ ((whC f != 0) = false → ((whA f != 0) = true → False) ∧ ((whA f != 0) = false → ∃ i, ([V.int IntKind.i64 b, V.int IntKind.i64 f, V.int IntKind.i64 m, V.sl 0 0 0, V.int IntKind.i64 5], [KO.row 29 4 []]) = (tellCut b f m).st i))) ∧
 (decide (f < 0) = false → ∃ i, ([V.int IntKind.i64 b, V.int IntKind.i64 f, V.int IntKind.i64 m, V.sl 0 0 0, V.int IntKind.i64 5], [KO.row 29 4 []]) = (tellCut b f m).st i)))) ∧
 ∀ (i : (tellCut b f m).α),
 ((!rightR b f m) = true → ((i.val.snd.snd == 5) = true → (((↑(i.val.fst - 0) : Int) == 0) = true → true = true) ∧ (((↑(i.val.fst - 0) : Int) == 0) = false → False)) ∧ ((i.val.snd.snd == 5) = false → False)) ∧
 ((!rightR b f m) = false →
 (0 ≤ f ∧ f ≤ 512 ∧ 1 ≤ m ∧ m ≤ 512) ∧
 ((i.val.snd.snd != 0) = true → False) ∧
 ((i.val.snd.snd != 0) = false →
 (((↑(i.val.fst - 0) : Int) != (↑(pcN f m - 0) : Int)) = true → False) ∧
 (((↑(i.val.fst - 0) : Int) != (↑(pcN f m - 0) : Int)) = false →
 (∃ i_1, ([V.sl 0 0 i.val.fst, V.sl 1 0 (pcN f m), V.int IntKind.i64 0], [KO.row 29 4 i.val.snd.fst, KO.row 29 4 (pcs f m (pcN f m))]) = (tellLI b f m).st i_1) ∧
 ∀ (i : (tellLI b f m).α),
 (decide ((↑i.val : Int) < (↑(pcN f m - 0) : Int)) = true →
 InB (↑i.val : Int) (pcN f m - 0) ∧
 ∃ e,
 (pcs f m (pcN f m))[0 + (↑i.val : Int).toNat]? = some e ∧
 ∃ n,
 e[0]? = some (Value.int IntKind.i64 n) ∧
 ∃ n_1,
 e[1]? = some (Value.int IntKind.i64 n_1) ∧
 ∃ n_2,
 e[2]? = some (Value.int IntKind.i64 n_2) ∧
 ∃ n_3,
 e[3]? = some (Value.int IntKind.i64 n_3) ∧
 InB (↑i.val : Int) (pcN f m - 0) ∧
 ∃ e,
 (pcs f m (pcN f m))[0 + (↑i.val : Int).toNat]? = some e ∧
 ∃ n_4,
 e[0]? = some (Value.int IntKind.i64 n_4) ∧
 ∃ n_5,
 e[1]? = some (Value.int IntKind.i64 n_5) ∧
 ∃ n_6,
 e[2]? = some (Value.int IntKind.i64 n_6) ∧
 ∃ n_7,
 e[3]? = some (Value.int IntKind.i64 n_7) ∧
 ((!(n == n_4 && (n_1 == n_5 && (n_2 == n_6 && (n_3 == n_7 && true))))) = true → False) ∧
 ((!(n == n_4 && (n_1 == n_5 && (n_2 == n_6 && (n_3 == n_7 && true))))) = false →
 ∃ j, ([V.sl 0 0 (pcN f m), V.sl 1 0 (pcN f m), V.int IntKind.i64 (IntKind.i64.wrap ((↑i.val : Int) + 1))], [KO.row 29 4 (pcs f m (pcN f m)), KO.row 29 4 (pcs f m (pcN f m))]) = (tellLI b f m).st j ∧ (tellLI b f m).μ j < (tellLI b f m).μ i)) ∧
 (decide ((↑i.val : Int) < (↑(pcN f m - 0) : Int)) = false → true = true)))))
 ) : XT b f m 4 [.int .i64 b, .int .i64 f, .int .i64 m] [] KT := Eq.mp (by kernel_rfl) h

theorem XT_ok (b f m : Int) : CallOk Try.prog (XT b f m) := callS_ok mixed stripeS_ok (tellT b f m) 10
theorem tell_pre {f : Int} {Q : Prop} (hf : -9223372036854775808 ≤ f ∧ f ≤ 9223372036854775807) (hQ : Q) :
 (decide (f ≥ 0) = true →
 ((whC f != IntKind.i64.wrap (f.tdiv 8)) = true → False) ∧
 ((whC f != IntKind.i64.wrap (f.tdiv 8)) = false →
 ((whA f != f.tmod 8) = true → False) ∧
 ((whA f != f.tmod 8) = false →
 (decide (f < 0) = true → ((whC f != 0) = true → False) ∧ ((whC f != 0) = false → ((whA f != 0) = true → False) ∧ ((whA f != 0) = false → Q))) ∧
 (decide (f < 0) = false → Q)))) ∧
 (decide (f ≥ 0) = false →
 (decide (f < 0) = true → ((whC f != 0) = true → False) ∧ ((whC f != 0) = false → ((whA f != 0) = true → False) ∧ ((whA f != 0) = false → Q))) ∧
 (decide (f < 0) = false → Q)) := by
  by_cases h : 0 ≤ f
  · have e1 : f.tdiv 8 = f / 8 := Int.tdiv_eq_ediv_of_nonneg h
    have e2 : f.tmod 8 = f % 8 := Int.tmod_eq_emod_of_nonneg h
    have w := IntWalk.i64_in (f / 8) (by omega)
    have h' : ¬ f < 0 := by omega
    simp [e1, e2, w, whC, whA, h, h', hQ]
  · have h' : f < 0 := by omega
    simp [whC, whA, h, h', hQ]
theorem lawTells (b f m : Int) (hb : (Lit.int .i64 b).wf = true) (hf : (Lit.int .i64 f).wf = true) (hm : (Lit.int .i64 m).wf = true) : XT b f m 4 [.int .i64 b, .int .i64 f, .int .i64 m] [] KT := by
  have b1 := bounds_i64 hb
  have b2 := bounds_i64 hf
  refine vc4 b f m ?_
  suffices body : _ from ⟨fun hr => ⟨b2, ⟨b1, b1, fun h => by simp at h, fun _ => tell_pre b2 ⟨⟨(pcN f m, pcs f m (pcN f m), 0), ⟨fun _ => rfl, fun h => absurd (hr.symm.trans h) (by decide)⟩⟩, rfl⟩⟩, body⟩,
    fun hr => ⟨b2, ⟨b1, b1, fun h => by simp at h, fun _ => tell_pre b2 ⟨⟨(0, [], 5), ⟨fun h => absurd (hr.symm.trans h) (by decide), fun _ => rfl⟩⟩, rfl⟩⟩, body⟩⟩
  rintro ⟨⟨n, l, e⟩, q1, q2⟩
  simp only [Nat.sub_zero, Nat.zero_add, Int.toNat_natCast]
  refine ⟨fun hr => ?_, fun hr => ?_⟩
  · have hr' : rightR b f m = false := by simpa using hr
    have := q2 hr'
    simp only [Prod.mk.injEq] at this
    obtain ⟨rfl, rfl, rfl⟩ := this
    simp
  · have hr' : rightR b f m = true := by simpa using hr
    have := q1 hr'
    simp only [Prod.mk.injEq] at this
    obtain ⟨rfl, rfl, rfl⟩ := this
    rw [rightR_iff] at hr'
    refine ⟨by omega, fun h => by simp at h, fun _ => ⟨fun h => by simp at h, fun _ => ⟨⟨⟨0, Nat.zero_le _⟩, rfl⟩, fun i => ?_⟩⟩⟩
    obtain ⟨i, hi⟩ := i
    have hi : i ≤ pcN f m := hi
    have hn : pcN f m ≤ 200 := by unfold pcN; split <;> omega
    simp only
    refine ⟨fun h => ?_, fun _ => trivial⟩
    have h : i < pcN f m := by simpa using h
    have hg : (pcs f m (pcN f m))[i]? = some (pc f m i) := by
      unfold pcs
      rw [List.getElem?_map, List.getElem?_range h]
      rfl
    have hin : InB (i : Int) (pcN f m) := ⟨by omega, by omega⟩
    refine ⟨hin, _, hg, _, rfl, _, rfl, _, rfl, _, rfl, hin, _, hg, _, rfl, _, rfl, _, rfl, _, rfl, fun h => by simp at h, fun _ => ⟨⟨i + 1, h⟩, ?_, ?_⟩⟩
    · have := IntWalk.i64_in ((i : Int) + 1) (by omega)
      rw [this]; rfl
    · show pcN f m - (i + 1) < pcN f m - i
      omega
end Go.Proofs.Ytgadaeodoapgiaa
