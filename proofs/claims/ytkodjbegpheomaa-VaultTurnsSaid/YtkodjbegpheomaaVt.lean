import Derived.Test.YtkodjbegpheomaaVb
import Derived.KernelRfl
namespace Go.Proofs.Ytkodjbegpheomaa
open Vc Go
set_option linter.unusedVariables false
set_option linter.unusedSimpArgs false
set_option maxRecDepth 100000
/-- Put of bytes that somebody else has, too. -/
abbrev vauR (N : Nat) (s : VSt) (M : ML) (x : List (List Int)) (b : List Int) : KB := [.cells [.ptr 2 0, .int .i64 ((N / 4 : Nat) : Int), .int .i64 (s.gen : Int), .mp 8, .ptr 9 0, .sb false], .row 5 1 (ints .u8 b), devV 5 10 x.length 0, .dead, .dead, secR x, .dead, .dead, mpT M,
  .cells [.ptr 2 0, .int .i64 ((2 * (N / 4) : Nat) : Int), .int .i64 ((N - 2 * (N / 4) : Nat) : Int), .int .i64 (s.gen : Int), .int .i64 (s.u : Int), .int .i64 (s.m : Int), .sl 11 0 0, .sb false], waiR [], begV []]
def SvPutR : FSpec := fun args kb K => match args, kb with
  | [.ptr 0 0, .int .i64 key, .sl 1 0 bl], [.cells [.ptr 2 0, .int .i64 n, .int .i64 gen, .mp 3, .ptr 4 0, .sb false], .row 5 1 B, .cells [.sl 5 0 a, .sl 6 0 lw, .int .i64 (-1), .sb false], .mp [.i64] false false 1 M, .cells [.ptr 2 0, .int .i64 f, .int .i64 k, .int .i64 g, .int .i64 u, .int .i64 m, .sl 7 0 lg, .sb false], .row 82 64 X, .row 84 129 W, .row 126 2 G] =>
    ∃ (N : Nat) (s : VSt) (x : List (List Int)) (b : List Int), VIn N s x n gen a lw M f k g u m lg X W G ∧ B = ints .u8 b ∧ bl = b.length ∧ Byt b ∧ b.length ≤ 800000 ∧ s.gen < 1000 ∧
      ∀ M' x', Tab M' (putF N s key b).2.l → VIs N (putF N s key b).2 x' → K (.int .i64 (putF N s key b).1) (vauR N (putF N s key b).2 M' x' b)
  | _, _ => False
theorem vcPutR (N : Nat) (s : VSt) (M : ML) (x : List (List Int)) (key : Int) (b : List Int) (K : V → KB → Prop) (hvc_ :
 (decide (key < 0) = true →
 K (V.int IntKind.i64 5)
 [KO.cells [V.ptr 2 0, V.int IntKind.i64 (↑(N / 4) : Int), V.int IntKind.i64 (↑s.gen : Int), V.mp 8, V.ptr 9 0, V.sb false], KO.row 5 1 (ints IntKind.u8 b), KO.cells [V.sl 5 0 x.length, V.sl 10 0 0, V.int IntKind.i64 (-1), V.sb false], KO.dead, KO.dead, KO.row 82 64 (secs x), KO.dead, KO.dead, KO.mp [IntKind.i64] false false 1 M,
 KO.cells [V.ptr 2 0, V.int IntKind.i64 (↑(2 * (N / 4)) : Int), V.int IntKind.i64 (↑(N - 2 * (N / 4)) : Int), V.int IntKind.i64 (↑s.gen : Int), V.int IntKind.i64 (↑s.u : Int), V.int IntKind.i64 (↑s.m : Int), V.sl 11 0 0, V.sb false], KO.row 84 129 [], KO.row 126 2 []]) ∧
 (decide (key < 0) = false →
 (decide (key > 1099511627776) = true →
 K (V.int IntKind.i64 5)
 [KO.cells [V.ptr 2 0, V.int IntKind.i64 (↑(N / 4) : Int), V.int IntKind.i64 (↑s.gen : Int), V.mp 8, V.ptr 9 0, V.sb false], KO.row 5 1 (ints IntKind.u8 b), KO.cells [V.sl 5 0 x.length, V.sl 10 0 0, V.int IntKind.i64 (-1), V.sb false], KO.dead, KO.dead, KO.row 82 64 (secs x), KO.dead, KO.dead, KO.mp [IntKind.i64] false false 1 M,
 KO.cells [V.ptr 2 0, V.int IntKind.i64 (↑(2 * (N / 4)) : Int), V.int IntKind.i64 (↑(N - 2 * (N / 4)) : Int), V.int IntKind.i64 (↑s.gen : Int), V.int IntKind.i64 (↑s.u : Int), V.int IntKind.i64 (↑s.m : Int), V.sl 11 0 0, V.sb false], KO.row 84 129 [], KO.row 126 2 []]) ∧
 (decide (key > 1099511627776) = false →
 (decide ((↑(b.length - 0) : Int) > 900) = true →
 K (V.int IntKind.i64 15)
 [KO.cells [V.ptr 2 0, V.int IntKind.i64 (↑(N / 4) : Int), V.int IntKind.i64 (↑s.gen : Int), V.mp 8, V.ptr 9 0, V.sb false], KO.row 5 1 (ints IntKind.u8 b), KO.cells [V.sl 5 0 x.length, V.sl 10 0 0, V.int IntKind.i64 (-1), V.sb false], KO.dead, KO.dead, KO.row 82 64 (secs x), KO.dead, KO.dead, KO.mp [IntKind.i64] false false 1 M,
 KO.cells [V.ptr 2 0, V.int IntKind.i64 (↑(2 * (N / 4)) : Int), V.int IntKind.i64 (↑(N - 2 * (N / 4)) : Int), V.int IntKind.i64 (↑s.gen : Int), V.int IntKind.i64 (↑s.u : Int), V.int IntKind.i64 (↑s.m : Int), V.sl 11 0 0, V.sb false], KO.row 84 129 [], KO.row 126 2 []]) ∧
 (decide ((↑(b.length - 0) : Int) > 900) = false →
 ∃ (a : List Int),
 [] = ints IntKind.u8 a ∧
 0 = a.length ∧
 a.length ≤ 10000000 ∧
 LeM key ∧
 ∃ (a_1 : List Int),
 ints IntKind.u8 (a ++ numW key) = ints IntKind.u8 a_1 ∧
 (a ++ numW key).length = a_1.length ∧
 a_1.length ≤ 10000000 ∧
 LeM 1 ∧
 (b.length ≤ (ints IntKind.u8 b).length ∧ True) ∧
 ∃ (a : List Int),
 ∃ (b_1 : List Int),
 ints IntKind.u8 (a_1 ++ [1]) = ints IntKind.u8 a ∧
 List.drop 0 (List.take b.length (ints IntKind.u8 b)) = ints IntKind.u8 b_1 ∧
 (a_1 ++ [1]).length = a.length ∧
 a.length ≤ 1000000 ∧
 b_1.length ≤ 1000000 ∧
 PlainS (ints IntKind.u8 (a ++ textW b_1)).flatten ∧
 ∃ (a_2 : List Int),
 ints IntKind.u8 (a ++ textW b_1) = ints IntKind.u8 a_2 ∧
 (a ++ textW b_1).length = a_2.length ∧
 a_2.length ≤ 1000000 ∧
 a_2.length ≤ (ints IntKind.u8 a_2).length ∧
 ∃ (N_1 : Nat),
 ∃ (s_1 : VSt),
 ∃ (x_1 : List (List Int)),
 ∃ (c : Chg),
 VIn N_1 s_1 x_1 (↑(N / 4) : Int) (↑s.gen : Int) x.length 0 M (↑(2 * (N / 4)) : Int) (↑(N - 2 * (N / 4)) : Int) (↑s.gen : Int) (↑s.u : Int) (↑s.m : Int) 0 (secs x) [] [] ∧
 List.drop 0 (List.take a_2.length (ints IntKind.u8 a_2)) = ints IntKind.u8 (chgW c) ∧
 ChgOk c ∧
 s_1.gen < 1000 ∧
 ∀ (M' : ML) (x' : List (List Int)),
 Tab M' (keepF N_1 s_1 c).snd.l →
 (∃ (P0 : List (List Int)), ∃ (P1 : List (List Int)), ∃ (B : List (List Int)), ∃ (g0 : Nat), ∃ (g1 : Nat), ∃ (l0 : List P2), ∃ (l1 : List P2), ∃ (cs : List Chg), VJ N_1 (keepF N_1 s_1 c).snd.gen (keepF N_1 s_1 c).snd.l (keepF N_1 s_1 c).snd.u (keepF N_1 s_1 c).snd.m x' P0 P1 B g0 g1 l0 l1 cs) →
 K (V.int IntKind.i64 (keepF N_1 s_1 c).fst)
 [KO.cells [V.ptr 2 0, V.int IntKind.i64 (↑(N_1 / 4) : Int), V.int IntKind.i64 (↑(keepF N_1 s_1 c).snd.gen : Int), V.mp 8, V.ptr 9 0, V.sb false], KO.row 5 1 (ints IntKind.u8 b), KO.cells [V.sl 5 0 x'.length, V.sl 10 0 0, V.int IntKind.i64 (-1), V.sb false], KO.dead, KO.dead, KO.row 82 64 (secs x'), KO.dead,
 KO.dead, KO.mp [IntKind.i64] false false 1 M',
 KO.cells [V.ptr 2 0, V.int IntKind.i64 (↑(2 * (N_1 / 4)) : Int), V.int IntKind.i64 (↑(N_1 - 2 * (N_1 / 4)) : Int), V.int IntKind.i64 (↑(keepF N_1 s_1 c).snd.gen : Int), V.int IntKind.i64 (↑(keepF N_1 s_1 c).snd.u : Int), V.int IntKind.i64 (↑(keepF N_1 s_1 c).snd.m : Int), V.sl 11 0 0, V.sb false],
 KO.row 84 129 [], KO.row 126 2 []])))
 ) : runSpec Try.prog XVp (noT 10) 10 [.ptr 0 0, .int .i64 key, .sl 1 0 b.length] [.cells [.ptr 2 0, .int .i64 ((N / 4 : Nat) : Int), .int .i64 (s.gen : Int), .mp 3, .ptr 4 0, .sb false], .row 5 1 (ints .u8 b), devV 5 6 x.length 0, mpT M, .cells [.ptr 2 0, .int .i64 ((2 * (N / 4) : Nat) : Int), .int .i64 ((N - 2 * (N / 4) : Nat) : Int), .int .i64 (s.gen : Int), .int .i64 (s.u : Int), .int .i64 (s.m : Int), .sl 7 0 0, .sb false], secR x, waiR [], begV []] (vtidy 8 (9, 6) (2, 1) [3, 4, 6, 7] K) := by apply Eq.mp (a := hvc_); kernel_rfl
theorem okPutR : SpecOk Try.prog 10 SvPutR := specOk_vt XVp_ok 8 (9, 6) (2, 1) [3, 4, 6, 7] (fun args kb K h => by
  unfold SvPutR at h; split at h <;> try exact h.elim
  obtain ⟨N, s, x, b, ⟨hvi, htab, rfl, rfl, rfl, rfl, rfl, rfl, rfl, rfl, rfl, rfl, rfl, rfl, rfl⟩, rfl, rfl, hbb, hbl, hg, h⟩ := h
  rename_i key M
  refine ⟨rfl, noT _, vcPutR N s M x key b K ?_⟩
  rw [Nat.sub_zero]
  refine ⟨fun q => ?_, fun q => ⟨fun q2 => ?_, fun q2 => ⟨fun q3 => ?_, fun q3 => ?_⟩⟩⟩
  · simp only [decide_eq_true_eq] at q
    have e : putF N s key b = (5, s) := if_pos (fun hk => by have := hk.lo; omega)
    rw [e] at h
    exact h M x htab hvi
  · simp only [gt_iff_lt, decide_eq_true_eq] at q2
    have e : putF N s key b = (5, s) := if_pos (fun hk => by have := hk.hi; omega)
    rw [e] at h
    exact h M x htab hvi
  all_goals simp only [gt_iff_lt, decide_eq_true_eq, decide_eq_false_iff_not] at q q2 q3
  all_goals have hk : NumJ key := ⟨by omega, by omega⟩
  · have e : putF N s key b = (15, s) := by unfold putF; rw [if_neg (fun hn => hn hk), if_pos (by omega)]
    rw [e] at h
    exact h M x htab hvi
  · have e : putF N s key b = keepF N s (key, some b) := by unfold putF; rw [if_neg (fun hn => hn hk), if_neg (by omega)]
    rw [e] at h
    have hc : ChgOk (key, some b) := ⟨hk, fun b' hb' => by cases hb'; exact ⟨hbb, by omega⟩⟩
    have hn := (numW_len key).2
    have ht := (textW_len b).2
    have hcw := (chgW_ok hc).2
    refine ⟨[], rfl, rfl, Nat.zero_le _, ⟨by omega⟩, numW key, rfl, rfl, by omega, ⟨by omega⟩, ⟨by rw [ints_len]; exact Nat.le_refl _, trivial⟩, numW key ++ [1], b, rfl, by rw [List.drop_zero, take_i], rfl, by rw [List.length_append, List.length_singleton]; omega, by omega, ⟨plain_ints⟩, chgW (key, some b), rfl, rfl, by omega, by rw [ints_len]; exact Nat.le_refl _, N, s, x, (key, some b), ⟨hvi, htab, rfl, rfl, rfl, rfl, rfl, rfl, rfl, rfl, rfl, rfl, rfl, rfl, rfl⟩, by rw [take_i, List.drop_zero], hc, hg, fun M2 x2 t1 t2 => h M2 x2 t1 t2⟩)
end Go.Proofs.Ytkodjbegpheomaa
