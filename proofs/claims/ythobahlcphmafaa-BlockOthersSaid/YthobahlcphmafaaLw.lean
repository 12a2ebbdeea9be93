import Derived.Test.YthobahlcphmafaaBm
import Derived.KernelRfl
namespace Go.Proofs.Ythobahlcphmafaa
open Vc Go
set_option linter.unusedVariables false
set_option linter.unusedSimpArgs false
set_option maxRecDepth 100000
def Sawake : FSpec := fun args kb K => match args, kb with | [], [] => K (.sb true) [] | _, _ => False
def b2S : FuncId → Option Known
  | 13 => some ⟨[], Sbytes⟩
  | 19 => some ⟨[], Scsum⟩
  | 14 => some ⟨[], Snew⟩
  | 16 => some ⟨[], SrTrim⟩
  | 8 => some ⟨[], Sdo⟩
  | f => blS f
noncomputable def XA : CallT := callS Try.prog b2S noT 10
def lawS : FuncId → Option Known
  | 7 => some ⟨[], Sawake⟩
  | f => b2S f
noncomputable def XL : CallT := callS Try.prog lawS noT 10
theorem vcAwake  (K : V → KB → Prop) (h :
 0 < 16 ∧
 16 ≤ 16 ∧
 ∃ c b,
 (List.replicate 128 (D.val (Value.int IntKind.u8 0))) =
 dns IntKind.u8 c ∧
 [[D.val (Value.int IntKind.u8 48)], [D.val (Value.int IntKind.u8 49)], [D.val (Value.int IntKind.u8 50)], [D.val (Value.int IntKind.u8 51)], [D.val (Value.int IntKind.u8 52)], [D.val (Value.int IntKind.u8 53)], [D.val (Value.int IntKind.u8 54)], [D.val (Value.int IntKind.u8 55)], [D.val (Value.int IntKind.u8 56)], [D.val (Value.int IntKind.u8 57)], [D.val (Value.int IntKind.u8 97)],
 [D.val (Value.int IntKind.u8 98)], [D.val (Value.int IntKind.u8 99)], [D.val (Value.int IntKind.u8 100)], [D.val (Value.int IntKind.u8 101)], [D.val (Value.int IntKind.u8 102)]] =
 ints IntKind.u8 b ∧
 c.length = 128 ∧
 (okI 3 ∧ b.length = 16 →
 ∃ c_1,
 dns IntKind.u8 (splice c 48 b) = dns IntKind.u8 c_1 ∧
 c_1.length = 128 ∧
 (okI 3 →
 ∃ c,
 dns IntKind.u8 c_1 = dns IntKind.u8 c ∧
 c.length = 128 ∧
 (∀ (c_2 : Int), List.Mem c_2 c → 0 ≤ c_2 ∧ c_2 < 256) ∧
 ∃ c_2,
 (List.replicate 128 (D.val (Value.int IntKind.u8 0))) =
 dns IntKind.u8 c_2 ∧
 c_2.length = 128 ∧
 (∀ (c : Int), List.Mem c c_2 → 0 ≤ c ∧ c < 256) ∧
 ∃ c_3,
 dns IntKind.u8 c = dns IntKind.u8 c_3 ∧
 c_3.length = 128 ∧
 (okI 3 →
 (true = true →
 (true = true →
 ((crcI c != crcI c_2) = true →
 (true = true →
 InB 10 16 ∧
 ∃ e,
 (ints IntKind.u8 (List.take 16 (List.drop 48 c_1)))[10]? = some e ∧
 ∃ n,
 e[0]? = some (D.val (Value.int IntKind.u8 n)) ∧
 ((n == 97) = true →
 ∃ c,
 dns IntKind.u8 (splice c_3 48 [0, 0, 0, 0, 0, 0, 0, 0, 0, 0, 0, 0, 0, 0, 0, 0]) = dns IntKind.u8 c ∧
 c.length = 128 ∧ (∀ (c_4 : Int), List.Mem c_4 c → 0 ≤ c_4 ∧ c_4 < 256) ∧ ∃ c_4, dns IntKind.u8 c_2 = dns IntKind.u8 c_4 ∧ c_4.length = 128 ∧ (∀ (c : Int), List.Mem c c_4 → 0 ≤ c ∧ c < 256) ∧ K (V.sb (crcI c == crcI c_4)) []) ∧
 ((n == 97) = false → K (V.sb false) [])) ∧
 (true = false → K (V.sb false) [])) ∧
 ((crcI c != crcI c_2) = false → K (V.sb false) [])) ∧
 (true = false → K (V.sb false) [])) ∧
 (true = false → K (V.sb false) [])) ∧
 ((okI 3 → False) →
 (true = true →
 (false = true →
 ((crcI c != crcI c_2) = true →
 (true = true →
 InB 10 16 ∧
 ∃ e,
 (ints IntKind.u8 (List.take 16 (List.drop 48 c_1)))[10]? = some e ∧
 ∃ n,
 e[0]? = some (D.val (Value.int IntKind.u8 n)) ∧
 ((n == 97) = true → ∃ c, dns IntKind.u8 c_3 = dns IntKind.u8 c ∧ c.length = 128 ∧ (∀ (c_4 : Int), List.Mem c_4 c → 0 ≤ c_4 ∧ c_4 < 256) ∧ ∃ c_4, dns IntKind.u8 c_2 = dns IntKind.u8 c_4 ∧ c_4.length = 128 ∧ (∀ (c : Int), List.Mem c c_4 → 0 ≤ c ∧ c < 256) ∧ K (V.sb (crcI c == crcI c_4)) []) ∧
 ((n == 97) = false → K (V.sb false) [])) ∧
 (true = false → K (V.sb false) [])) ∧
 ((crcI c != crcI c_2) = false → K (V.sb false) [])) ∧
 (false = false → K (V.sb false) [])) ∧
 (true = false → K (V.sb false) []))) ∧
 ((okI 3 → False) →
 ∃ c,
 dns IntKind.u8 c_1 = dns IntKind.u8 c ∧
 c.length = 128 ∧
 (∀ (c_2 : Int), List.Mem c_2 c → 0 ≤ c_2 ∧ c_2 < 256) ∧
 ∃ c_2,
 (List.replicate 128 (D.val (Value.int IntKind.u8 0))) =
 dns IntKind.u8 c_2 ∧
 c_2.length = 128 ∧
 (∀ (c : Int), List.Mem c c_2 → 0 ≤ c ∧ c < 256) ∧
 ∃ c_3,
 dns IntKind.u8 c = dns IntKind.u8 c_3 ∧
 c_3.length = 128 ∧
 (okI 3 → (true = true → (true = true → ((crcI c != crcI c_2) = true → (false = true → False) ∧ (false = false → K (V.sb false) [])) ∧ ((crcI c != crcI c_2) = false → K (V.sb false) [])) ∧ (true = false → K (V.sb false) [])) ∧ (true = false → K (V.sb false) [])) ∧
 ((okI 3 → False) → (true = true → (false = true → ((crcI c != crcI c_2) = true → (false = true → False) ∧ (false = false → K (V.sb false) [])) ∧ ((crcI c != crcI c_2) = false → K (V.sb false) [])) ∧ (false = false → K (V.sb false) [])) ∧ (true = false → K (V.sb false) [])))) ∧
 ((okI 3 ∧ b.length = 16 → False) →
 ∃ c_1,
 dns IntKind.u8 c = dns IntKind.u8 c_1 ∧
 c_1.length = 128 ∧
 (okI 3 →
 ∃ c,
 dns IntKind.u8 c_1 = dns IntKind.u8 c ∧
 c.length = 128 ∧
 (∀ (c_2 : Int), List.Mem c_2 c → 0 ≤ c_2 ∧ c_2 < 256) ∧
 ∃ c_2,
 (List.replicate 128 (D.val (Value.int IntKind.u8 0))) =
 dns IntKind.u8 c_2 ∧
 c_2.length = 128 ∧
 (∀ (c : Int), List.Mem c c_2 → 0 ≤ c ∧ c < 256) ∧
 ∃ c_3,
 dns IntKind.u8 c = dns IntKind.u8 c_3 ∧
 c_3.length = 128 ∧
 (okI 3 →
 (false = true →
 (true = true →
 ((crcI c != crcI c_2) = true →
 (true = true →
 InB 10 16 ∧
 ∃ e,
 (ints IntKind.u8 (List.take 16 (List.drop 48 c_1)))[10]? = some e ∧
 ∃ n,
 e[0]? = some (D.val (Value.int IntKind.u8 n)) ∧
 ((n == 97) = true →
 ∃ c,
 dns IntKind.u8 (splice c_3 48 [0, 0, 0, 0, 0, 0, 0, 0, 0, 0, 0, 0, 0, 0, 0, 0]) = dns IntKind.u8 c ∧
 c.length = 128 ∧ (∀ (c_4 : Int), List.Mem c_4 c → 0 ≤ c_4 ∧ c_4 < 256) ∧ ∃ c_4, dns IntKind.u8 c_2 = dns IntKind.u8 c_4 ∧ c_4.length = 128 ∧ (∀ (c : Int), List.Mem c c_4 → 0 ≤ c ∧ c < 256) ∧ K (V.sb (crcI c == crcI c_4)) []) ∧
 ((n == 97) = false → K (V.sb false) [])) ∧
 (true = false → K (V.sb false) [])) ∧
 ((crcI c != crcI c_2) = false → K (V.sb false) [])) ∧
 (true = false → K (V.sb false) [])) ∧
 (false = false → K (V.sb false) [])) ∧
 ((okI 3 → False) →
 (false = true →
 (false = true →
 ((crcI c != crcI c_2) = true →
 (true = true →
 InB 10 16 ∧
 ∃ e,
 (ints IntKind.u8 (List.take 16 (List.drop 48 c_1)))[10]? = some e ∧
 ∃ n,
 e[0]? = some (D.val (Value.int IntKind.u8 n)) ∧
 ((n == 97) = true → ∃ c, dns IntKind.u8 c_3 = dns IntKind.u8 c ∧ c.length = 128 ∧ (∀ (c_4 : Int), List.Mem c_4 c → 0 ≤ c_4 ∧ c_4 < 256) ∧ ∃ c_4, dns IntKind.u8 c_2 = dns IntKind.u8 c_4 ∧ c_4.length = 128 ∧ (∀ (c : Int), List.Mem c c_4 → 0 ≤ c ∧ c < 256) ∧ K (V.sb (crcI c == crcI c_4)) []) ∧
 ((n == 97) = false → K (V.sb false) [])) ∧
 (true = false → K (V.sb false) [])) ∧
 ((crcI c != crcI c_2) = false → K (V.sb false) [])) ∧
 (false = false → K (V.sb false) [])) ∧
 (false = false → K (V.sb false) []))) ∧
 ((okI 3 → False) →
 ∃ c,
 dns IntKind.u8 c_1 = dns IntKind.u8 c ∧
 c.length = 128 ∧
 (∀ (c_2 : Int), List.Mem c_2 c → 0 ≤ c_2 ∧ c_2 < 256) ∧
 ∃ c_2,
 (List.replicate 128 (D.val (Value.int IntKind.u8 0))) =
 dns IntKind.u8 c_2 ∧
 c_2.length = 128 ∧
 (∀ (c : Int), List.Mem c c_2 → 0 ≤ c ∧ c < 256) ∧
 ∃ c_3,
 dns IntKind.u8 c = dns IntKind.u8 c_3 ∧
 c_3.length = 128 ∧
 (okI 3 → (false = true → (true = true → ((crcI c != crcI c_2) = true → (false = true → False) ∧ (false = false → K (V.sb false) [])) ∧ ((crcI c != crcI c_2) = false → K (V.sb false) [])) ∧ (true = false → K (V.sb false) [])) ∧ (false = false → K (V.sb false) [])) ∧
 ((okI 3 → False) → (false = true → (false = true → ((crcI c != crcI c_2) = true → (false = true → False) ∧ (false = false → K (V.sb false) [])) ∧ ((crcI c != crcI c_2) = false → K (V.sb false) [])) ∧ (false = false → K (V.sb false) [])) ∧ (false = false → K (V.sb false) []))))
 ) : runSpec Try.prog XA (noT 7) 7 [] [] K := Eq.mp (by kernel_rfl) h
theorem vcLoads (l : List Int)  (h :
 (decide ((↑(ints IntKind.u8 l).length : Int) > 200) = true → true = true) ∧
 (decide ((↑(ints IntKind.u8 l).length : Int) > 200) = false →
 ∃ l_1,
 ints IntKind.u8 l = ints IntKind.u8 l_1 ∧
 (∀ (c : Int), List.Mem c l_1 → 0 ≤ c ∧ c < 256) ∧
 l_1.length ≤ 900000 ∧
 ∃ l_2,
 ints IntKind.u8 l = ints IntKind.u8 l_2 ∧
 (∀ (c : Int), List.Mem c l_2 → 0 ≤ c ∧ c < 256) ∧
 l_2.length ≤ 900000 ∧
 (∀ (m : List Int),
 openI l_2 = some m →
 m.length = 128 →
 ∃ l_3,
 ints IntKind.u8 l = ints IntKind.u8 l_3 ∧
 (∀ (c : Int), List.Mem c l_3 → 0 ≤ c ∧ c < 256) ∧
 l_3.length ≤ 900000 ∧
 (∀ (m_1 : List Int),
 openI l_3 = some m_1 →
 m_1.length = 128 →
 (l_1.length + 4 ≤ (ints IntKind.u8 (sealI l_1)).length ∧ True) ∧
 ∃ l_4,
 List.drop 0 (List.take (l_1.length + 4) (ints IntKind.u8 (sealI l_1))) = ints IntKind.u8 l_4 ∧
 (∀ (c : Int), List.Mem c l_4 → 0 ≤ c ∧ c < 256) ∧
 l_4.length ≤ 900000 ∧
 (∀ (m_2 : List Int),
 openI l_4 = some m_2 →
 m_2.length = 128 →
 PlainS (dns IntKind.u8 m_2) ∧
 ∃ l_5,
 ints IntKind.u8 (sealI l_1) = ints IntKind.u8 l_5 ∧
 l_1.length + 4 = l_5.length ∧
 (∀ (c : Int), List.Mem c l_5 → 0 ≤ c ∧ c < 256) ∧
 l_5.length ≤ 900000 ∧
 (∀ (m_3 : List Int),
 openI l_5 = some m_3 →
 m_3.length = 128 →
 (true = true →
 (true = true →
 (false = true →
 (false = true → true = true) ∧
 (false = false →
 ∃ c,
 dns IntKind.u8 m_2 = dns IntKind.u8 c ∧
 c.length = 128 ∧
 (∀ (c_1 : Int), List.Mem c_1 c → 0 ≤ c_1 ∧ c_1 < 256) ∧
 (132 ≤ (ints IntKind.u8 (sealI c)).length ∧ l_1.length + 4 ≤ (ints IntKind.u8 l_5).length ∧ True) ∧
 ∃ a b, List.drop 0 (List.take 132 (ints IntKind.u8 (sealI c))) = ints IntKind.u8 a ∧ List.drop 0 (List.take (l_1.length + 4) (ints IntKind.u8 l_5)) = ints IntKind.u8 b ∧ a.length.le 1000000 ∧ True ∧ (decide (a = b) = true → true = true) ∧ (decide (a = b) = false → False))) ∧
 (false = false →
 ∃ c,
 dns IntKind.u8 m = dns IntKind.u8 c ∧
 c.length = 128 ∧
 (∀ (c_1 : Int), List.Mem c_1 c → 0 ≤ c_1 ∧ c_1 < 256) ∧
 (132 ≤ (ints IntKind.u8 (sealI c)).length ∧ True ∧ True) ∧
 ∃ a b,
 List.drop 0 (List.take 132 (ints IntKind.u8 (sealI c))) = ints IntKind.u8 a ∧
 ints IntKind.u8 l = ints IntKind.u8 b ∧
 a.length.le 1000000 ∧
 True ∧
 (decide (a = b) = true →
 (false = true → true = true) ∧
 (false = false →
 ∃ c,
 dns IntKind.u8 m_2 = dns IntKind.u8 c ∧
 c.length = 128 ∧
 (∀ (c_1 : Int), List.Mem c_1 c → 0 ≤ c_1 ∧ c_1 < 256) ∧
 (132 ≤ (ints IntKind.u8 (sealI c)).length ∧ l_1.length + 4 ≤ (ints IntKind.u8 l_5).length ∧ True) ∧
 ∃ a b,
 List.drop 0 (List.take 132 (ints IntKind.u8 (sealI c))) = ints IntKind.u8 a ∧
 List.drop 0 (List.take (l_1.length + 4) (ints IntKind.u8 l_5)) = ints IntKind.u8 b ∧ a.length.le 1000000 ∧ True ∧ (decide (a = b) = true → true = true) ∧ (decide (a = b) = false → False))) ∧
 (decide (a = b) = false → False))) ∧
 (true = false → False)) ∧
 (true = false → False)) ∧
 ((∀ (m : List Int), openI l_5 = some m → m.length = 128 → False) →
 (true = true →
 (false = true →
 (false = true →
 (false = true → true = true) ∧
 (false = false →
 ∃ c,
 dns IntKind.u8 m_2 = dns IntKind.u8 c ∧
 c.length = 128 ∧
 (∀ (c_1 : Int), List.Mem c_1 c → 0 ≤ c_1 ∧ c_1 < 256) ∧
 (132 ≤ (ints IntKind.u8 (sealI c)).length ∧ l_1.length + 4 ≤ (ints IntKind.u8 l_5).length ∧ True) ∧
 ∃ a b, List.drop 0 (List.take 132 (ints IntKind.u8 (sealI c))) = ints IntKind.u8 a ∧ List.drop 0 (List.take (l_1.length + 4) (ints IntKind.u8 l_5)) = ints IntKind.u8 b ∧ a.length.le 1000000 ∧ True ∧ (decide (a = b) = true → true = true) ∧ (decide (a = b) = false → False))) ∧
 (false = false →
 ∃ c,
 dns IntKind.u8 m = dns IntKind.u8 c ∧
 c.length = 128 ∧
 (∀ (c_1 : Int), List.Mem c_1 c → 0 ≤ c_1 ∧ c_1 < 256) ∧
 (132 ≤ (ints IntKind.u8 (sealI c)).length ∧ True ∧ True) ∧
 ∃ a b,
 List.drop 0 (List.take 132 (ints IntKind.u8 (sealI c))) = ints IntKind.u8 a ∧
 ints IntKind.u8 l = ints IntKind.u8 b ∧
 a.length.le 1000000 ∧
 True ∧
 (decide (a = b) = true →
 (false = true → true = true) ∧
 (false = false →
 ∃ c,
 dns IntKind.u8 m_2 = dns IntKind.u8 c ∧
 c.length = 128 ∧
 (∀ (c_1 : Int), List.Mem c_1 c → 0 ≤ c_1 ∧ c_1 < 256) ∧
 (132 ≤ (ints IntKind.u8 (sealI c)).length ∧ l_1.length + 4 ≤ (ints IntKind.u8 l_5).length ∧ True) ∧
 ∃ a b,
 List.drop 0 (List.take 132 (ints IntKind.u8 (sealI c))) = ints IntKind.u8 a ∧ List.drop 0 (List.take (l_1.length + 4) (ints IntKind.u8 l_5)) = ints IntKind.u8 b ∧ a.length.le 1000000 ∧ True ∧ (decide (a = b) = true → true = true) ∧ (decide (a = b) = false → False))) ∧
 (decide (a = b) = false → False))) ∧
 (false = false → False)) ∧
 (true = false → False))) ∧
 ((∀ (m : List Int), openI l_4 = some m → m.length = 128 → False) →
 PlainS
 (List.replicate 128 (D.val (Value.int IntKind.u8 0))) ∧
 ∃ l_5,
 ints IntKind.u8 (sealI l_1) = ints IntKind.u8 l_5 ∧
 l_1.length + 4 = l_5.length ∧
 (∀ (c : Int), List.Mem c l_5 → 0 ≤ c ∧ c < 256) ∧
 l_5.length ≤ 900000 ∧
 (∀ (m_2 : List Int),
 openI l_5 = some m_2 →
 m_2.length = 128 →
 (true = true →
 (false = true →
 (false = true →
 (true = true → true = true) ∧
 (true = false →
 ∃ c,
 (List.replicate 128 (D.val (Value.int IntKind.u8 0))) =
 dns IntKind.u8 c ∧
 c.length = 128 ∧
 (∀ (c_1 : Int), List.Mem c_1 c → 0 ≤ c_1 ∧ c_1 < 256) ∧
 (132 ≤ (ints IntKind.u8 (sealI c)).length ∧ l_1.length + 4 ≤ (ints IntKind.u8 l_5).length ∧ True) ∧
 ∃ a b, List.drop 0 (List.take 132 (ints IntKind.u8 (sealI c))) = ints IntKind.u8 a ∧ List.drop 0 (List.take (l_1.length + 4) (ints IntKind.u8 l_5)) = ints IntKind.u8 b ∧ a.length.le 1000000 ∧ True ∧ (decide (a = b) = true → true = true) ∧ (decide (a = b) = false → False))) ∧
 (false = false →
 ∃ c,
 dns IntKind.u8 m = dns IntKind.u8 c ∧
 c.length = 128 ∧
 (∀ (c_1 : Int), List.Mem c_1 c → 0 ≤ c_1 ∧ c_1 < 256) ∧
 (132 ≤ (ints IntKind.u8 (sealI c)).length ∧ True ∧ True) ∧
 ∃ a b,
 List.drop 0 (List.take 132 (ints IntKind.u8 (sealI c))) = ints IntKind.u8 a ∧
 ints IntKind.u8 l = ints IntKind.u8 b ∧
 a.length.le 1000000 ∧
 True ∧
 (decide (a = b) = true →
 (true = true → true = true) ∧
 (true = false →
 ∃ c,
 (List.replicate 128 (D.val (Value.int IntKind.u8 0))) =
 dns IntKind.u8 c ∧
 c.length = 128 ∧
 (∀ (c_1 : Int), List.Mem c_1 c → 0 ≤ c_1 ∧ c_1 < 256) ∧
 (132 ≤ (ints IntKind.u8 (sealI c)).length ∧ l_1.length + 4 ≤ (ints IntKind.u8 l_5).length ∧ True) ∧
 ∃ a b,
 List.drop 0 (List.take 132 (ints IntKind.u8 (sealI c))) = ints IntKind.u8 a ∧ List.drop 0 (List.take (l_1.length + 4) (ints IntKind.u8 l_5)) = ints IntKind.u8 b ∧ a.length.le 1000000 ∧ True ∧ (decide (a = b) = true → true = true) ∧ (decide (a = b) = false → False))) ∧
 (decide (a = b) = false → False))) ∧
 (false = false → False)) ∧
 (true = false → False)) ∧
 ((∀ (m : List Int), openI l_5 = some m → m.length = 128 → False) →
 (true = true →
 (true = true →
 (false = true →
 (true = true → true = true) ∧
 (true = false →
 ∃ c,
 (List.replicate 128 (D.val (Value.int IntKind.u8 0))) =
 dns IntKind.u8 c ∧
 c.length = 128 ∧
 (∀ (c_1 : Int), List.Mem c_1 c → 0 ≤ c_1 ∧ c_1 < 256) ∧
 (132 ≤ (ints IntKind.u8 (sealI c)).length ∧ l_1.length + 4 ≤ (ints IntKind.u8 l_5).length ∧ True) ∧
 ∃ a b, List.drop 0 (List.take 132 (ints IntKind.u8 (sealI c))) = ints IntKind.u8 a ∧ List.drop 0 (List.take (l_1.length + 4) (ints IntKind.u8 l_5)) = ints IntKind.u8 b ∧ a.length.le 1000000 ∧ True ∧ (decide (a = b) = true → true = true) ∧ (decide (a = b) = false → False))) ∧
 (false = false →
 ∃ c,
 dns IntKind.u8 m = dns IntKind.u8 c ∧
 c.length = 128 ∧
 (∀ (c_1 : Int), List.Mem c_1 c → 0 ≤ c_1 ∧ c_1 < 256) ∧
 (132 ≤ (ints IntKind.u8 (sealI c)).length ∧ True ∧ True) ∧
 ∃ a b,
 List.drop 0 (List.take 132 (ints IntKind.u8 (sealI c))) = ints IntKind.u8 a ∧
 ints IntKind.u8 l = ints IntKind.u8 b ∧
 a.length.le 1000000 ∧
 True ∧
 (decide (a = b) = true →
 (true = true → true = true) ∧
 (true = false →
 ∃ c,
 (List.replicate 128 (D.val (Value.int IntKind.u8 0))) =
 dns IntKind.u8 c ∧
 c.length = 128 ∧
 (∀ (c_1 : Int), List.Mem c_1 c → 0 ≤ c_1 ∧ c_1 < 256) ∧
 (132 ≤ (ints IntKind.u8 (sealI c)).length ∧ l_1.length + 4 ≤ (ints IntKind.u8 l_5).length ∧ True) ∧
 ∃ a b, List.drop 0 (List.take 132 (ints IntKind.u8 (sealI c))) = ints IntKind.u8 a ∧ List.drop 0 (List.take (l_1.length + 4) (ints IntKind.u8 l_5)) = ints IntKind.u8 b ∧ a.length.le 1000000 ∧ True ∧ (decide (a = b) = true → true = true) ∧ (decide (a = b) = false → False))) ∧
 (decide (a = b) = false → False))) ∧
 (true = false → False)) ∧
 (true = false → False)))) ∧
 ((∀ (m : List Int), openI l_3 = some m → m.length = 128 → False) →
 (l_1.length + 4 ≤ (ints IntKind.u8 (sealI l_1)).length ∧ True) ∧
 ∃ l_4,
 List.drop 0 (List.take (l_1.length + 4) (ints IntKind.u8 (sealI l_1))) = ints IntKind.u8 l_4 ∧
 (∀ (c : Int), List.Mem c l_4 → 0 ≤ c ∧ c < 256) ∧
 l_4.length ≤ 900000 ∧
 (∀ (m_1 : List Int),
 openI l_4 = some m_1 →
 m_1.length = 128 →
 PlainS (dns IntKind.u8 m_1) ∧
 ∃ l_5,
 ints IntKind.u8 (sealI l_1) = ints IntKind.u8 l_5 ∧
 l_1.length + 4 = l_5.length ∧
 (∀ (c : Int), List.Mem c l_5 → 0 ≤ c ∧ c < 256) ∧
 l_5.length ≤ 900000 ∧
 (∀ (m_2 : List Int),
 openI l_5 = some m_2 →
 m_2.length = 128 →
 (false = true →
 (true = true →
 (false = true →
 (false = true → true = true) ∧
 (false = false →
 ∃ c,
 dns IntKind.u8 m_1 = dns IntKind.u8 c ∧
 c.length = 128 ∧
 (∀ (c_1 : Int), List.Mem c_1 c → 0 ≤ c_1 ∧ c_1 < 256) ∧
 (132 ≤ (ints IntKind.u8 (sealI c)).length ∧ l_1.length + 4 ≤ (ints IntKind.u8 l_5).length ∧ True) ∧
 ∃ a b, List.drop 0 (List.take 132 (ints IntKind.u8 (sealI c))) = ints IntKind.u8 a ∧ List.drop 0 (List.take (l_1.length + 4) (ints IntKind.u8 l_5)) = ints IntKind.u8 b ∧ a.length.le 1000000 ∧ True ∧ (decide (a = b) = true → true = true) ∧ (decide (a = b) = false → False))) ∧
 (false = false →
 ∃ c,
 dns IntKind.u8 m = dns IntKind.u8 c ∧
 c.length = 128 ∧
 (∀ (c_1 : Int), List.Mem c_1 c → 0 ≤ c_1 ∧ c_1 < 256) ∧
 (132 ≤ (ints IntKind.u8 (sealI c)).length ∧ True ∧ True) ∧
 ∃ a b,
 List.drop 0 (List.take 132 (ints IntKind.u8 (sealI c))) = ints IntKind.u8 a ∧
 ints IntKind.u8 l = ints IntKind.u8 b ∧
 a.length.le 1000000 ∧
 True ∧
 (decide (a = b) = true →
 (false = true → true = true) ∧
 (false = false →
 ∃ c,
 dns IntKind.u8 m_1 = dns IntKind.u8 c ∧
 c.length = 128 ∧
 (∀ (c_1 : Int), List.Mem c_1 c → 0 ≤ c_1 ∧ c_1 < 256) ∧
 (132 ≤ (ints IntKind.u8 (sealI c)).length ∧ l_1.length + 4 ≤ (ints IntKind.u8 l_5).length ∧ True) ∧
 ∃ a b,
 List.drop 0 (List.take 132 (ints IntKind.u8 (sealI c))) = ints IntKind.u8 a ∧ List.drop 0 (List.take (l_1.length + 4) (ints IntKind.u8 l_5)) = ints IntKind.u8 b ∧ a.length.le 1000000 ∧ True ∧ (decide (a = b) = true → true = true) ∧ (decide (a = b) = false → False))) ∧
 (decide (a = b) = false → False))) ∧
 (true = false → False)) ∧
 (false = false → False)) ∧
 ((∀ (m : List Int), openI l_5 = some m → m.length = 128 → False) →
 (false = true →
 (false = true →
 (false = true →
 (false = true → true = true) ∧
 (false = false →
 ∃ c,
 dns IntKind.u8 m_1 = dns IntKind.u8 c ∧
 c.length = 128 ∧
 (∀ (c_1 : Int), List.Mem c_1 c → 0 ≤ c_1 ∧ c_1 < 256) ∧
 (132 ≤ (ints IntKind.u8 (sealI c)).length ∧ l_1.length + 4 ≤ (ints IntKind.u8 l_5).length ∧ True) ∧
 ∃ a b, List.drop 0 (List.take 132 (ints IntKind.u8 (sealI c))) = ints IntKind.u8 a ∧ List.drop 0 (List.take (l_1.length + 4) (ints IntKind.u8 l_5)) = ints IntKind.u8 b ∧ a.length.le 1000000 ∧ True ∧ (decide (a = b) = true → true = true) ∧ (decide (a = b) = false → False))) ∧
 (false = false →
 ∃ c,
 dns IntKind.u8 m = dns IntKind.u8 c ∧
 c.length = 128 ∧
 (∀ (c_1 : Int), List.Mem c_1 c → 0 ≤ c_1 ∧ c_1 < 256) ∧
 (132 ≤ (ints IntKind.u8 (sealI c)).length ∧ True ∧ True) ∧
 ∃ a b,
 List.drop 0 (List.take 132 (ints IntKind.u8 (sealI c))) = ints IntKind.u8 a ∧
 ints IntKind.u8 l = ints IntKind.u8 b ∧
 a.length.le 1000000 ∧
 True ∧
 (decide (a = b) = true →
 (false = true → true = true) ∧
 (false = false →
 ∃ c,
 dns IntKind.u8 m_1 = dns IntKind.u8 c ∧
 c.length = 128 ∧
 (∀ (c_1 : Int), List.Mem c_1 c → 0 ≤ c_1 ∧ c_1 < 256) ∧
 (132 ≤ (ints IntKind.u8 (sealI c)).length ∧ l_1.length + 4 ≤ (ints IntKind.u8 l_5).length ∧ True) ∧
 ∃ a b, List.drop 0 (List.take 132 (ints IntKind.u8 (sealI c))) = ints IntKind.u8 a ∧ List.drop 0 (List.take (l_1.length + 4) (ints IntKind.u8 l_5)) = ints IntKind.u8 b ∧ a.length.le 1000000 ∧ True ∧ (decide (a = b) = true → true = true) ∧ (decide (a = b) = false → False))) ∧
 (decide (a = b) = false → False))) ∧
 (false = false → False)) ∧
 (false = false → False))) ∧
 ((∀ (m : List Int), openI l_4 = some m → m.length = 128 → False) →
 PlainS
 (List.replicate 128 (D.val (Value.int IntKind.u8 0))) ∧
 ∃ l_5,
 ints IntKind.u8 (sealI l_1) = ints IntKind.u8 l_5 ∧
 l_1.length + 4 = l_5.length ∧
 (∀ (c : Int), List.Mem c l_5 → 0 ≤ c ∧ c < 256) ∧
 l_5.length ≤ 900000 ∧
 (∀ (m_1 : List Int),
 openI l_5 = some m_1 →
 m_1.length = 128 →
 (false = true →
 (false = true →
 (false = true →
 (true = true → true = true) ∧
 (true = false →
 ∃ c,
 (List.replicate 128 (D.val (Value.int IntKind.u8 0))) =
 dns IntKind.u8 c ∧
 c.length = 128 ∧
 (∀ (c_1 : Int), List.Mem c_1 c → 0 ≤ c_1 ∧ c_1 < 256) ∧
 (132 ≤ (ints IntKind.u8 (sealI c)).length ∧ l_1.length + 4 ≤ (ints IntKind.u8 l_5).length ∧ True) ∧
 ∃ a b, List.drop 0 (List.take 132 (ints IntKind.u8 (sealI c))) = ints IntKind.u8 a ∧ List.drop 0 (List.take (l_1.length + 4) (ints IntKind.u8 l_5)) = ints IntKind.u8 b ∧ a.length.le 1000000 ∧ True ∧ (decide (a = b) = true → true = true) ∧ (decide (a = b) = false → False))) ∧
 (false = false →
 ∃ c,
 dns IntKind.u8 m = dns IntKind.u8 c ∧
 c.length = 128 ∧
 (∀ (c_1 : Int), List.Mem c_1 c → 0 ≤ c_1 ∧ c_1 < 256) ∧
 (132 ≤ (ints IntKind.u8 (sealI c)).length ∧ True ∧ True) ∧
 ∃ a b,
 List.drop 0 (List.take 132 (ints IntKind.u8 (sealI c))) = ints IntKind.u8 a ∧
 ints IntKind.u8 l = ints IntKind.u8 b ∧
 a.length.le 1000000 ∧
 True ∧
 (decide (a = b) = true →
 (true = true → true = true) ∧
 (true = false →
 ∃ c,
 (List.replicate 128 (D.val (Value.int IntKind.u8 0))) =
 dns IntKind.u8 c ∧
 c.length = 128 ∧
 (∀ (c_1 : Int), List.Mem c_1 c → 0 ≤ c_1 ∧ c_1 < 256) ∧
 (132 ≤ (ints IntKind.u8 (sealI c)).length ∧ l_1.length + 4 ≤ (ints IntKind.u8 l_5).length ∧ True) ∧
 ∃ a b, List.drop 0 (List.take 132 (ints IntKind.u8 (sealI c))) = ints IntKind.u8 a ∧ List.drop 0 (List.take (l_1.length + 4) (ints IntKind.u8 l_5)) = ints IntKind.u8 b ∧ a.length.le 1000000 ∧ True ∧ (decide (a = b) = true → true = true) ∧ (decide (a = b) = false → False))) ∧
 (decide (a = b) = false → False))) ∧
 (false = false → False)) ∧
 (false = false → False)) ∧
 ((∀ (m : List Int), openI l_5 = some m → m.length = 128 → False) →
 (false = true →
 (true = true →
 (false = true →
 (true = true → true = true) ∧
 (true = false →
 ∃ c,
 (List.replicate 128 (D.val (Value.int IntKind.u8 0))) =
 dns IntKind.u8 c ∧
 c.length = 128 ∧
 (∀ (c_1 : Int), List.Mem c_1 c → 0 ≤ c_1 ∧ c_1 < 256) ∧
 (132 ≤ (ints IntKind.u8 (sealI c)).length ∧ l_1.length + 4 ≤ (ints IntKind.u8 l_5).length ∧ True) ∧
 ∃ a b, List.drop 0 (List.take 132 (ints IntKind.u8 (sealI c))) = ints IntKind.u8 a ∧ List.drop 0 (List.take (l_1.length + 4) (ints IntKind.u8 l_5)) = ints IntKind.u8 b ∧ a.length.le 1000000 ∧ True ∧ (decide (a = b) = true → true = true) ∧ (decide (a = b) = false → False))) ∧
 (false = false →
 ∃ c,
 dns IntKind.u8 m = dns IntKind.u8 c ∧
 c.length = 128 ∧
 (∀ (c_1 : Int), List.Mem c_1 c → 0 ≤ c_1 ∧ c_1 < 256) ∧
 (132 ≤ (ints IntKind.u8 (sealI c)).length ∧ True ∧ True) ∧
 ∃ a b,
 List.drop 0 (List.take 132 (ints IntKind.u8 (sealI c))) = ints IntKind.u8 a ∧
 ints IntKind.u8 l = ints IntKind.u8 b ∧
 a.length.le 1000000 ∧
 True ∧
 (decide (a = b) = true →
 (true = true → true = true) ∧
 (true = false →
 ∃ c,
 (List.replicate 128 (D.val (Value.int IntKind.u8 0))) =
 dns IntKind.u8 c ∧
 c.length = 128 ∧
 (∀ (c_1 : Int), List.Mem c_1 c → 0 ≤ c_1 ∧ c_1 < 256) ∧
 (132 ≤ (ints IntKind.u8 (sealI c)).length ∧ l_1.length + 4 ≤ (ints IntKind.u8 l_5).length ∧ True) ∧
 ∃ a b, List.drop 0 (List.take 132 (ints IntKind.u8 (sealI c))) = ints IntKind.u8 a ∧ List.drop 0 (List.take (l_1.length + 4) (ints IntKind.u8 l_5)) = ints IntKind.u8 b ∧ a.length.le 1000000 ∧ True ∧ (decide (a = b) = true → true = true) ∧ (decide (a = b) = false → False))) ∧
 (decide (a = b) = false → False))) ∧
 (true = false → False)) ∧
 (false = false → False))))) ∧
 ((∀ (m : List Int), openI l_2 = some m → m.length = 128 → False) →
 ∃ l_3,
 ints IntKind.u8 l = ints IntKind.u8 l_3 ∧
 (∀ (c : Int), List.Mem c l_3 → 0 ≤ c ∧ c < 256) ∧
 l_3.length ≤ 900000 ∧
 (∀ (m : List Int),
 openI l_3 = some m →
 m.length = 128 →
 (l_1.length + 4 ≤ (ints IntKind.u8 (sealI l_1)).length ∧ True) ∧
 ∃ l_4,
 List.drop 0 (List.take (l_1.length + 4) (ints IntKind.u8 (sealI l_1))) = ints IntKind.u8 l_4 ∧
 (∀ (c : Int), List.Mem c l_4 → 0 ≤ c ∧ c < 256) ∧
 l_4.length ≤ 900000 ∧
 (∀ (m : List Int),
 openI l_4 = some m →
 m.length = 128 →
 PlainS (dns IntKind.u8 m) ∧
 ∃ l_5,
 ints IntKind.u8 (sealI l_1) = ints IntKind.u8 l_5 ∧
 l_1.length + 4 = l_5.length ∧
 (∀ (c : Int), List.Mem c l_5 → 0 ≤ c ∧ c < 256) ∧
 l_5.length ≤ 900000 ∧
 (∀ (m_1 : List Int),
 openI l_5 = some m_1 →
 m_1.length = 128 →
 (false = true →
 (true = true →
 (true = true →
 (false = true → true = true) ∧
 (false = false →
 ∃ c,
 dns IntKind.u8 m = dns IntKind.u8 c ∧
 c.length = 128 ∧
 (∀ (c_1 : Int), List.Mem c_1 c → 0 ≤ c_1 ∧ c_1 < 256) ∧
 (132 ≤ (ints IntKind.u8 (sealI c)).length ∧ l_1.length + 4 ≤ (ints IntKind.u8 l_5).length ∧ True) ∧
 ∃ a b, List.drop 0 (List.take 132 (ints IntKind.u8 (sealI c))) = ints IntKind.u8 a ∧ List.drop 0 (List.take (l_1.length + 4) (ints IntKind.u8 l_5)) = ints IntKind.u8 b ∧ a.length.le 1000000 ∧ True ∧ (decide (a = b) = true → true = true) ∧ (decide (a = b) = false → False))) ∧
 (true = false →
 ∃ c,
 (List.replicate 128 (D.val (Value.int IntKind.u8 0))) =
 dns IntKind.u8 c ∧
 c.length = 128 ∧
 (∀ (c_1 : Int), List.Mem c_1 c → 0 ≤ c_1 ∧ c_1 < 256) ∧
 (132 ≤ (ints IntKind.u8 (sealI c)).length ∧ True ∧ True) ∧
 ∃ a b,
 List.drop 0 (List.take 132 (ints IntKind.u8 (sealI c))) = ints IntKind.u8 a ∧
 ints IntKind.u8 l = ints IntKind.u8 b ∧
 a.length.le 1000000 ∧
 True ∧
 (decide (a = b) = true →
 (false = true → true = true) ∧
 (false = false →
 ∃ c,
 dns IntKind.u8 m = dns IntKind.u8 c ∧
 c.length = 128 ∧
 (∀ (c_1 : Int), List.Mem c_1 c → 0 ≤ c_1 ∧ c_1 < 256) ∧
 (132 ≤ (ints IntKind.u8 (sealI c)).length ∧ l_1.length + 4 ≤ (ints IntKind.u8 l_5).length ∧ True) ∧
 ∃ a b,
 List.drop 0 (List.take 132 (ints IntKind.u8 (sealI c))) = ints IntKind.u8 a ∧ List.drop 0 (List.take (l_1.length + 4) (ints IntKind.u8 l_5)) = ints IntKind.u8 b ∧ a.length.le 1000000 ∧ True ∧ (decide (a = b) = true → true = true) ∧ (decide (a = b) = false → False))) ∧
 (decide (a = b) = false → False))) ∧
 (true = false → False)) ∧
 (false = false → False)) ∧
 ((∀ (m : List Int), openI l_5 = some m → m.length = 128 → False) →
 (false = true →
 (false = true →
 (true = true →
 (false = true → true = true) ∧
 (false = false →
 ∃ c,
 dns IntKind.u8 m = dns IntKind.u8 c ∧
 c.length = 128 ∧
 (∀ (c_1 : Int), List.Mem c_1 c → 0 ≤ c_1 ∧ c_1 < 256) ∧
 (132 ≤ (ints IntKind.u8 (sealI c)).length ∧ l_1.length + 4 ≤ (ints IntKind.u8 l_5).length ∧ True) ∧
 ∃ a b, List.drop 0 (List.take 132 (ints IntKind.u8 (sealI c))) = ints IntKind.u8 a ∧ List.drop 0 (List.take (l_1.length + 4) (ints IntKind.u8 l_5)) = ints IntKind.u8 b ∧ a.length.le 1000000 ∧ True ∧ (decide (a = b) = true → true = true) ∧ (decide (a = b) = false → False))) ∧
 (true = false →
 ∃ c,
 (List.replicate 128 (D.val (Value.int IntKind.u8 0))) =
 dns IntKind.u8 c ∧
 c.length = 128 ∧
 (∀ (c_1 : Int), List.Mem c_1 c → 0 ≤ c_1 ∧ c_1 < 256) ∧
 (132 ≤ (ints IntKind.u8 (sealI c)).length ∧ True ∧ True) ∧
 ∃ a b,
 List.drop 0 (List.take 132 (ints IntKind.u8 (sealI c))) = ints IntKind.u8 a ∧
 ints IntKind.u8 l = ints IntKind.u8 b ∧
 a.length.le 1000000 ∧
 True ∧
 (decide (a = b) = true →
 (false = true → true = true) ∧
 (false = false →
 ∃ c,
 dns IntKind.u8 m = dns IntKind.u8 c ∧
 c.length = 128 ∧
 (∀ (c_1 : Int), List.Mem c_1 c → 0 ≤ c_1 ∧ c_1 < 256) ∧
 (132 ≤ (ints IntKind.u8 (sealI c)).length ∧ l_1.length + 4 ≤ (ints IntKind.u8 l_5).length ∧ True) ∧
 ∃ a b, List.drop 0 (List.take 132 (ints IntKind.u8 (sealI c))) = ints IntKind.u8 a ∧ List.drop 0 (List.take (l_1.length + 4) (ints IntKind.u8 l_5)) = ints IntKind.u8 b ∧ a.length.le 1000000 ∧ True ∧ (decide (a = b) = true → true = true) ∧ (decide (a = b) = false → False))) ∧
 (decide (a = b) = false → False))) ∧
 (false = false → False)) ∧
 (false = false → False))) ∧
 ((∀ (m : List Int), openI l_4 = some m → m.length = 128 → False) →
 PlainS
 (List.replicate 128 (D.val (Value.int IntKind.u8 0))) ∧
 ∃ l_5,
 ints IntKind.u8 (sealI l_1) = ints IntKind.u8 l_5 ∧
 l_1.length + 4 = l_5.length ∧
 (∀ (c : Int), List.Mem c l_5 → 0 ≤ c ∧ c < 256) ∧
 l_5.length ≤ 900000 ∧
 (∀ (m : List Int),
 openI l_5 = some m →
 m.length = 128 →
 (false = true →
 (false = true →
 (true = true →
 (true = true → true = true) ∧
 (true = false →
 ∃ c,
 (List.replicate 128 (D.val (Value.int IntKind.u8 0))) =
 dns IntKind.u8 c ∧
 c.length = 128 ∧
 (∀ (c_1 : Int), List.Mem c_1 c → 0 ≤ c_1 ∧ c_1 < 256) ∧
 (132 ≤ (ints IntKind.u8 (sealI c)).length ∧ l_1.length + 4 ≤ (ints IntKind.u8 l_5).length ∧ True) ∧
 ∃ a b, List.drop 0 (List.take 132 (ints IntKind.u8 (sealI c))) = ints IntKind.u8 a ∧ List.drop 0 (List.take (l_1.length + 4) (ints IntKind.u8 l_5)) = ints IntKind.u8 b ∧ a.length.le 1000000 ∧ True ∧ (decide (a = b) = true → true = true) ∧ (decide (a = b) = false → False))) ∧
 (true = false →
 ∃ c,
 (List.replicate 128 (D.val (Value.int IntKind.u8 0))) =
 dns IntKind.u8 c ∧
 c.length = 128 ∧
 (∀ (c_1 : Int), List.Mem c_1 c → 0 ≤ c_1 ∧ c_1 < 256) ∧
 (132 ≤ (ints IntKind.u8 (sealI c)).length ∧ True ∧ True) ∧
 ∃ a b,
 List.drop 0 (List.take 132 (ints IntKind.u8 (sealI c))) = ints IntKind.u8 a ∧
 ints IntKind.u8 l = ints IntKind.u8 b ∧
 a.length.le 1000000 ∧
 True ∧
 (decide (a = b) = true →
 (true = true → true = true) ∧
 (true = false →
 ∃ c,
 (List.replicate 128 (D.val (Value.int IntKind.u8 0))) =
 dns IntKind.u8 c ∧
 c.length = 128 ∧
 (∀ (c_1 : Int), List.Mem c_1 c → 0 ≤ c_1 ∧ c_1 < 256) ∧
 (132 ≤ (ints IntKind.u8 (sealI c)).length ∧ l_1.length + 4 ≤ (ints IntKind.u8 l_5).length ∧ True) ∧
 ∃ a b, List.drop 0 (List.take 132 (ints IntKind.u8 (sealI c))) = ints IntKind.u8 a ∧ List.drop 0 (List.take (l_1.length + 4) (ints IntKind.u8 l_5)) = ints IntKind.u8 b ∧ a.length.le 1000000 ∧ True ∧ (decide (a = b) = true → true = true) ∧ (decide (a = b) = false → False))) ∧
 (decide (a = b) = false → False))) ∧
 (false = false → False)) ∧
 (false = false → False)) ∧
 ((∀ (m : List Int), openI l_5 = some m → m.length = 128 → False) →
 (false = true →
 (true = true →
 (true = true →
 (true = true → true = true) ∧
 (true = false →
 ∃ c,
 (List.replicate 128 (D.val (Value.int IntKind.u8 0))) =
 dns IntKind.u8 c ∧
 c.length = 128 ∧
 (∀ (c_1 : Int), List.Mem c_1 c → 0 ≤ c_1 ∧ c_1 < 256) ∧
 (132 ≤ (ints IntKind.u8 (sealI c)).length ∧ l_1.length + 4 ≤ (ints IntKind.u8 l_5).length ∧ True) ∧
 ∃ a b, List.drop 0 (List.take 132 (ints IntKind.u8 (sealI c))) = ints IntKind.u8 a ∧ List.drop 0 (List.take (l_1.length + 4) (ints IntKind.u8 l_5)) = ints IntKind.u8 b ∧ a.length.le 1000000 ∧ True ∧ (decide (a = b) = true → true = true) ∧ (decide (a = b) = false → False))) ∧
 (true = false →
 ∃ c,
 (List.replicate 128 (D.val (Value.int IntKind.u8 0))) =
 dns IntKind.u8 c ∧
 c.length = 128 ∧
 (∀ (c_1 : Int), List.Mem c_1 c → 0 ≤ c_1 ∧ c_1 < 256) ∧
 (132 ≤ (ints IntKind.u8 (sealI c)).length ∧ True ∧ True) ∧
 ∃ a b,
 List.drop 0 (List.take 132 (ints IntKind.u8 (sealI c))) = ints IntKind.u8 a ∧
 ints IntKind.u8 l = ints IntKind.u8 b ∧
 a.length.le 1000000 ∧
 True ∧
 (decide (a = b) = true →
 (true = true → true = true) ∧
 (true = false →
 ∃ c,
 (List.replicate 128 (D.val (Value.int IntKind.u8 0))) =
 dns IntKind.u8 c ∧
 c.length = 128 ∧
 (∀ (c_1 : Int), List.Mem c_1 c → 0 ≤ c_1 ∧ c_1 < 256) ∧
 (132 ≤ (ints IntKind.u8 (sealI c)).length ∧ l_1.length + 4 ≤ (ints IntKind.u8 l_5).length ∧ True) ∧
 ∃ a b, List.drop 0 (List.take 132 (ints IntKind.u8 (sealI c))) = ints IntKind.u8 a ∧ List.drop 0 (List.take (l_1.length + 4) (ints IntKind.u8 l_5)) = ints IntKind.u8 b ∧ a.length.le 1000000 ∧ True ∧ (decide (a = b) = true → true = true) ∧ (decide (a = b) = false → False))) ∧
 (decide (a = b) = false → False))) ∧
 (true = false → False)) ∧
 (false = false → False)))) ∧
 ((∀ (m : List Int), openI l_3 = some m → m.length = 128 → False) →
 (l_1.length + 4 ≤ (ints IntKind.u8 (sealI l_1)).length ∧ True) ∧
 ∃ l_4,
 List.drop 0 (List.take (l_1.length + 4) (ints IntKind.u8 (sealI l_1))) = ints IntKind.u8 l_4 ∧
 (∀ (c : Int), List.Mem c l_4 → 0 ≤ c ∧ c < 256) ∧
 l_4.length ≤ 900000 ∧
 (∀ (m : List Int),
 openI l_4 = some m →
 m.length = 128 →
 PlainS (dns IntKind.u8 m) ∧
 ∃ l_5,
 ints IntKind.u8 (sealI l_1) = ints IntKind.u8 l_5 ∧
 l_1.length + 4 = l_5.length ∧
 (∀ (c : Int), List.Mem c l_5 → 0 ≤ c ∧ c < 256) ∧
 l_5.length ≤ 900000 ∧
 (∀ (m_1 : List Int),
 openI l_5 = some m_1 →
 m_1.length = 128 →
 (true = true →
 (true = true →
 (true = true →
 (false = true → true = true) ∧
 (false = false →
 ∃ c,
 dns IntKind.u8 m = dns IntKind.u8 c ∧
 c.length = 128 ∧
 (∀ (c_1 : Int), List.Mem c_1 c → 0 ≤ c_1 ∧ c_1 < 256) ∧
 (132 ≤ (ints IntKind.u8 (sealI c)).length ∧ l_1.length + 4 ≤ (ints IntKind.u8 l_5).length ∧ True) ∧
 ∃ a b, List.drop 0 (List.take 132 (ints IntKind.u8 (sealI c))) = ints IntKind.u8 a ∧ List.drop 0 (List.take (l_1.length + 4) (ints IntKind.u8 l_5)) = ints IntKind.u8 b ∧ a.length.le 1000000 ∧ True ∧ (decide (a = b) = true → true = true) ∧ (decide (a = b) = false → False))) ∧
 (true = false →
 ∃ c,
 (List.replicate 128 (D.val (Value.int IntKind.u8 0))) =
 dns IntKind.u8 c ∧
 c.length = 128 ∧
 (∀ (c_1 : Int), List.Mem c_1 c → 0 ≤ c_1 ∧ c_1 < 256) ∧
 (132 ≤ (ints IntKind.u8 (sealI c)).length ∧ True ∧ True) ∧
 ∃ a b,
 List.drop 0 (List.take 132 (ints IntKind.u8 (sealI c))) = ints IntKind.u8 a ∧
 ints IntKind.u8 l = ints IntKind.u8 b ∧
 a.length.le 1000000 ∧
 True ∧
 (decide (a = b) = true →
 (false = true → true = true) ∧
 (false = false →
 ∃ c,
 dns IntKind.u8 m = dns IntKind.u8 c ∧
 c.length = 128 ∧
 (∀ (c_1 : Int), List.Mem c_1 c → 0 ≤ c_1 ∧ c_1 < 256) ∧
 (132 ≤ (ints IntKind.u8 (sealI c)).length ∧ l_1.length + 4 ≤ (ints IntKind.u8 l_5).length ∧ True) ∧
 ∃ a b, List.drop 0 (List.take 132 (ints IntKind.u8 (sealI c))) = ints IntKind.u8 a ∧ List.drop 0 (List.take (l_1.length + 4) (ints IntKind.u8 l_5)) = ints IntKind.u8 b ∧ a.length.le 1000000 ∧ True ∧ (decide (a = b) = true → true = true) ∧ (decide (a = b) = false → False))) ∧
 (decide (a = b) = false → False))) ∧
 (true = false → False)) ∧
 (true = false → False)) ∧
 ((∀ (m : List Int), openI l_5 = some m → m.length = 128 → False) →
 (true = true →
 (false = true →
 (true = true →
 (false = true → true = true) ∧
 (false = false →
 ∃ c,
 dns IntKind.u8 m = dns IntKind.u8 c ∧
 c.length = 128 ∧
 (∀ (c_1 : Int), List.Mem c_1 c → 0 ≤ c_1 ∧ c_1 < 256) ∧
 (132 ≤ (ints IntKind.u8 (sealI c)).length ∧ l_1.length + 4 ≤ (ints IntKind.u8 l_5).length ∧ True) ∧
 ∃ a b, List.drop 0 (List.take 132 (ints IntKind.u8 (sealI c))) = ints IntKind.u8 a ∧ List.drop 0 (List.take (l_1.length + 4) (ints IntKind.u8 l_5)) = ints IntKind.u8 b ∧ a.length.le 1000000 ∧ True ∧ (decide (a = b) = true → true = true) ∧ (decide (a = b) = false → False))) ∧
 (true = false →
 ∃ c,
 (List.replicate 128 (D.val (Value.int IntKind.u8 0))) =
 dns IntKind.u8 c ∧
 c.length = 128 ∧
 (∀ (c_1 : Int), List.Mem c_1 c → 0 ≤ c_1 ∧ c_1 < 256) ∧
 (132 ≤ (ints IntKind.u8 (sealI c)).length ∧ True ∧ True) ∧
 ∃ a b,
 List.drop 0 (List.take 132 (ints IntKind.u8 (sealI c))) = ints IntKind.u8 a ∧
 ints IntKind.u8 l = ints IntKind.u8 b ∧
 a.length.le 1000000 ∧
 True ∧
 (decide (a = b) = true →
 (false = true → true = true) ∧
 (false = false →
 ∃ c,
 dns IntKind.u8 m = dns IntKind.u8 c ∧
 c.length = 128 ∧
 (∀ (c_1 : Int), List.Mem c_1 c → 0 ≤ c_1 ∧ c_1 < 256) ∧
 (132 ≤ (ints IntKind.u8 (sealI c)).length ∧ l_1.length + 4 ≤ (ints IntKind.u8 l_5).length ∧ True) ∧
 ∃ a b, List.drop 0 (List.take 132 (ints IntKind.u8 (sealI c))) = ints IntKind.u8 a ∧ List.drop 0 (List.take (l_1.length + 4) (ints IntKind.u8 l_5)) = ints IntKind.u8 b ∧ a.length.le 1000000 ∧ True ∧ (decide (a = b) = true → true = true) ∧ (decide (a = b) = false → False))) ∧
 (decide (a = b) = false → False))) ∧
 (false = false → False)) ∧
 (true = false → False))) ∧
 ((∀ (m : List Int), openI l_4 = some m → m.length = 128 → False) →
 PlainS
 (List.replicate 128 (D.val (Value.int IntKind.u8 0))) ∧
 ∃ l_5,
 ints IntKind.u8 (sealI l_1) = ints IntKind.u8 l_5 ∧
 l_1.length + 4 = l_5.length ∧
 (∀ (c : Int), List.Mem c l_5 → 0 ≤ c ∧ c < 256) ∧
 l_5.length ≤ 900000 ∧
 (∀ (m : List Int),
 openI l_5 = some m →
 m.length = 128 →
 (true = true →
 (false = true →
 (true = true →
 (true = true → true = true) ∧
 (true = false →
 ∃ c,
 (List.replicate 128 (D.val (Value.int IntKind.u8 0))) =
 dns IntKind.u8 c ∧
 c.length = 128 ∧
 (∀ (c_1 : Int), List.Mem c_1 c → 0 ≤ c_1 ∧ c_1 < 256) ∧
 (132 ≤ (ints IntKind.u8 (sealI c)).length ∧ l_1.length + 4 ≤ (ints IntKind.u8 l_5).length ∧ True) ∧
 ∃ a b, List.drop 0 (List.take 132 (ints IntKind.u8 (sealI c))) = ints IntKind.u8 a ∧ List.drop 0 (List.take (l_1.length + 4) (ints IntKind.u8 l_5)) = ints IntKind.u8 b ∧ a.length.le 1000000 ∧ True ∧ (decide (a = b) = true → true = true) ∧ (decide (a = b) = false → False))) ∧
 (true = false →
 ∃ c,
 (List.replicate 128 (D.val (Value.int IntKind.u8 0))) =
 dns IntKind.u8 c ∧
 c.length = 128 ∧
 (∀ (c_1 : Int), List.Mem c_1 c → 0 ≤ c_1 ∧ c_1 < 256) ∧
 (132 ≤ (ints IntKind.u8 (sealI c)).length ∧ True ∧ True) ∧
 ∃ a b,
 List.drop 0 (List.take 132 (ints IntKind.u8 (sealI c))) = ints IntKind.u8 a ∧
 ints IntKind.u8 l = ints IntKind.u8 b ∧
 a.length.le 1000000 ∧
 True ∧
 (decide (a = b) = true →
 (true = true → true = true) ∧
 (true = false →
 ∃ c,
 (List.replicate 128 (D.val (Value.int IntKind.u8 0))) =
 dns IntKind.u8 c ∧
 c.length = 128 ∧
 (∀ (c_1 : Int), List.Mem c_1 c → 0 ≤ c_1 ∧ c_1 < 256) ∧
 (132 ≤ (ints IntKind.u8 (sealI c)).length ∧ l_1.length + 4 ≤ (ints IntKind.u8 l_5).length ∧ True) ∧
 ∃ a b, List.drop 0 (List.take 132 (ints IntKind.u8 (sealI c))) = ints IntKind.u8 a ∧ List.drop 0 (List.take (l_1.length + 4) (ints IntKind.u8 l_5)) = ints IntKind.u8 b ∧ a.length.le 1000000 ∧ True ∧ (decide (a = b) = true → true = true) ∧ (decide (a = b) = false → False))) ∧
 (decide (a = b) = false → False))) ∧
 (false = false → False)) ∧
 (true = false → False)) ∧
 ((∀ (m : List Int), openI l_5 = some m → m.length = 128 → False) →
 (true = true →
 (true = true →
 (true = true →
 (true = true → true = true) ∧
 (true = false →
 ∃ c,
 (List.replicate 128 (D.val (Value.int IntKind.u8 0))) =
 dns IntKind.u8 c ∧
 c.length = 128 ∧
 (∀ (c_1 : Int), List.Mem c_1 c → 0 ≤ c_1 ∧ c_1 < 256) ∧
 (132 ≤ (ints IntKind.u8 (sealI c)).length ∧ l_1.length + 4 ≤ (ints IntKind.u8 l_5).length ∧ True) ∧
 ∃ a b, List.drop 0 (List.take 132 (ints IntKind.u8 (sealI c))) = ints IntKind.u8 a ∧ List.drop 0 (List.take (l_1.length + 4) (ints IntKind.u8 l_5)) = ints IntKind.u8 b ∧ a.length.le 1000000 ∧ True ∧ (decide (a = b) = true → true = true) ∧ (decide (a = b) = false → False))) ∧
 (true = false →
 ∃ c,
 (List.replicate 128 (D.val (Value.int IntKind.u8 0))) =
 dns IntKind.u8 c ∧
 c.length = 128 ∧
 (∀ (c_1 : Int), List.Mem c_1 c → 0 ≤ c_1 ∧ c_1 < 256) ∧
 (132 ≤ (ints IntKind.u8 (sealI c)).length ∧ True ∧ True) ∧
 ∃ a b,
 List.drop 0 (List.take 132 (ints IntKind.u8 (sealI c))) = ints IntKind.u8 a ∧
 ints IntKind.u8 l = ints IntKind.u8 b ∧
 a.length.le 1000000 ∧
 True ∧
 (decide (a = b) = true →
 (true = true → true = true) ∧
 (true = false →
 ∃ c,
 (List.replicate 128 (D.val (Value.int IntKind.u8 0))) =
 dns IntKind.u8 c ∧
 c.length = 128 ∧
 (∀ (c_1 : Int), List.Mem c_1 c → 0 ≤ c_1 ∧ c_1 < 256) ∧
 (132 ≤ (ints IntKind.u8 (sealI c)).length ∧ l_1.length + 4 ≤ (ints IntKind.u8 l_5).length ∧ True) ∧
 ∃ a b, List.drop 0 (List.take 132 (ints IntKind.u8 (sealI c))) = ints IntKind.u8 a ∧ List.drop 0 (List.take (l_1.length + 4) (ints IntKind.u8 l_5)) = ints IntKind.u8 b ∧ a.length.le 1000000 ∧ True ∧ (decide (a = b) = true → true = true) ∧ (decide (a = b) = false → False))) ∧
 (decide (a = b) = false → False))) ∧
 (true = false → False)) ∧
 (true = false → False))))))
 ) : XL 6 [.dat (.sl 1 (ints .u8 l))] [] KT := Eq.mp (by kernel_rfl) h
theorem vcValues (l m : List Act)  (h :
 (decide ((↑(List.map actR l).length : Int) > 60) = true → true = true) ∧
 (decide ((↑(List.map actR l).length : Int) > 60) = false →
 (decide ((↑(List.map actR m).length : Int) > 60) = true → true = true) ∧
 (decide ((↑(List.map actR m).length : Int) > 60) = false →
 ∃ c l_1,
 (List.replicate 128 (D.val (Value.int IntKind.u8 0))) =
 dns IntKind.u8 c ∧
 c.length = 128 ∧
 List.map actR l = List.map actR l_1 ∧
 l_1.length ≤ 1000 ∧
 ∃ c_1,
 dns IntKind.u8 (doC c l_1) = dns IntKind.u8 c_1 ∧
 c_1.length = 128 ∧
 (∀ (c : Int), List.Mem c c_1 → 0 ≤ c ∧ c < 256) ∧
 ∃ c_2 l,
 dns IntKind.u8 (doC c l_1) = dns IntKind.u8 c_2 ∧
 c_2.length = 128 ∧
 List.map actR m = List.map actR l ∧
 l.length ≤ 1000 ∧
 ∃ c,
 dns IntKind.u8 c_1 = dns IntKind.u8 c ∧
 c.length = 128 ∧
 (∀ (c_3 : Int), List.Mem c_3 c → 0 ≤ c_3 ∧ c_3 < 256) ∧
 (132 ≤ (ints IntKind.u8 (sealI c)).length ∧ 132 ≤ (ints IntKind.u8 (sealI c_1)).length ∧ True) ∧
 ∃ a b, List.drop 0 (List.take 132 (ints IntKind.u8 (sealI c))) = ints IntKind.u8 a ∧ List.drop 0 (List.take 132 (ints IntKind.u8 (sealI c_1))) = ints IntKind.u8 b ∧ a.length.le 1000000 ∧ True ∧ (decide (a = b) = true → true = true) ∧ (decide (a = b) = false → False)))
 ) : XL 4 [.dat (.sl 3 (l.map actR)), .dat (.sl 3 (m.map actR))] [] KT := Eq.mp (by kernel_rfl) h
theorem b2S_ok : AllOk Try.prog b2S := fun f k h => by
  unfold b2S at h
  split at h
  · cases h; exact okBytes
  · cases h; exact okCSum
  · cases h; exact okNew
  · cases h; exact okRTrim
  · cases h; exact okDo
  · exact blS_ok _ _ h
theorem XA_ok : CallOk Try.prog XA := callS_ok mixed b2S_ok noT 10
theorem ok3 : okI 3 := ⟨by decide, by decide⟩
def bs16 : List Int := [48, 49, 50, 51, 52, 53, 54, 55, 56, 57, 97, 98, 99, 100, 101, 102]
def cA : List Int := splice z128 48 bs16
theorem byt_dec {l : List Int} (h : (l.all fun c => decide (0 ≤ c) && decide (c < 256)) = true) : Byt l := fun c hc => by
  have := List.all_eq_true.1 h c hc
  simpa using this
theorem bytA : Byt cA := byt_dec (by decide +kernel)
theorem bytZ : Byt z128 := byt_dec (by decide +kernel)
theorem bytB : Byt (splice cA 48 (List.replicate 16 0)) := byt_dec (by decide +kernel)
theorem crcA : (crcI cA != crcI z128) = true := by decide +kernel
theorem crcB0 : (crcI (splice cA 48 (List.replicate 16 0)) == crcI z128) = true := by decide +kernel
theorem okAwake : SpecOk Try.prog 7 Sawake := specOk_of' XA_ok mixed (fun args kb K h => by
  unfold Sawake at h; split at h <;> try exact h.elim
  refine ⟨noT 7, vcAwake K ⟨by decide, by decide, z128, bs16, rfl, rfl, rfl, fun _ => ⟨cA, rfl, by decide +kernel, fun _ => ⟨cA, rfl, by decide +kernel, bytA, z128, rfl, rfl, bytZ, cA, rfl, by decide +kernel,
    fun _ => ⟨fun _ => ⟨fun _ => ⟨fun hx => ⟨fun _ => ⟨by unfold InB; omega, [D.val (.int .u8 97)], rfl, 97, rfl, fun _ => ⟨splice cA 48 (List.replicate 16 0), rfl, by decide +kernel, bytB, z128, rfl, rfl, bytZ, ?_⟩, fun h => (by simp at h)⟩, fun h => (by cases h)⟩, fun hx => ?_⟩, fun h => (by cases h)⟩, fun h => (by cases h)⟩,
    fun hn => absurd ok3 hn⟩, fun hn => absurd ok3 hn⟩, fun hn => absurd ⟨ok3, rfl⟩ hn⟩⟩
  · rw [crcB0]; exact h
  · rw [crcA] at hx; cases hx)
theorem lawS_ok : AllOk Try.prog lawS := fun f k h => by
  unfold lawS at h
  split at h
  · cases h; exact okAwake
  · exact b2S_ok _ _ h
theorem XL_ok : CallOk Try.prog XL := callS_ok mixed lawS_ok noT 10
def actB (a : Act) : Prop := Byt a.2.2
theorem splice_byt {c b : List Int} {o : Nat} (hc : Byt c) (hb : Byt b) : Byt (splice c o b) := fun d hd => by
  unfold splice at hd
  rcases List.mem_append.1 hd with hd | hd
  · rcases List.mem_append.1 hd with hd | hd
    · exact hc d (List.mem_of_mem_take hd)
    · exact hb d hd
  · exact hc d (List.mem_of_mem_drop hd)
theorem byt_z16 : Byt (List.replicate 16 0) := byt_dec (by decide +kernel)
theorem actC_byt {c : List Int} {a : Act} (hc : Byt c) (ha : actB a) : Byt (actC c a) := by
  unfold actC
  split
  · split
    · exact splice_byt hc ha
    · exact hc
  · split
    · exact splice_byt hc byt_z16
    · exact hc
theorem doC_byt {l : List Act} : ∀ {c : List Int}, Byt c → (∀ a ∈ l, actB a) → Byt (doC c l) := by
  induction l with
  | nil => intro c h _; exact h
  | cons a l ih => intro c h ha; exact ih (actC_byt h (ha a List.mem_cons_self)) (fun b hb => ha b (List.mem_cons_of_mem _ hb))
theorem lawValues (l m : List Act) (hl : ∀ a ∈ l, actB a) (hm : ∀ a ∈ m, actB a) : XL 4 [.dat (.sl 3 (l.map actR)), .dat (.sl 3 (m.map actR))] [] KT := by
  refine vcValues l m ⟨fun _ => rfl, fun h1 => ⟨fun _ => rfl, fun h2 => ?_⟩⟩
  simp only [List.length_map, decide_eq_false_iff_not] at h1 h2
  have l1 : (doC z128 l).length = 128 := doC_len rfl
  have b1 : Byt (doC z128 l) := doC_byt bytZ hl
  have s1 : List.drop 0 (List.take 132 (ints .u8 (sealI (doC z128 l)))) = ints .u8 (sealI (doC z128 l)) := by
    rw [List.drop_zero]; exact List.take_of_length_le (by rw [ints_len, sealI_len]; omega)
  have s2 : (sealI (doC z128 l)).length = 132 := by rw [sealI_len]; omega
  exact ⟨z128, l, rfl, rfl, rfl, by omega, doC z128 l, rfl, l1, b1, doC z128 l, m, rfl, l1, rfl, by omega, doC z128 l, rfl, l1, b1,
    ⟨by rw [ints_len, s2]; omega, by rw [ints_len, s2]; omega, trivial⟩, sealI (doC z128 l), sealI (doC z128 l), s1, s1, by show (sealI (doC z128 l)).length ≤ 1000000; omega, trivial, fun _ => rfl, fun h => by simp at h⟩
theorem conf_actR : ∀ x, Conf [.int .i64, .int .i64, .sl [.int .u8]] x → ∃ a : Act, x = actR a ∧ actB a := fun x h => by
  simp only [Conf, ConfD] at h
  obtain ⟨_, _, rfl, ⟨a, rfl, wa⟩, _, _, rfl, ⟨b, rfl, wb⟩, _, _, rfl, ⟨l, rfl, hl, hc⟩, rfl⟩ := h
  obtain ⟨zs, rfl, hz⟩ := conf_ints (k := .u8) (l := l) (fun e he => by simp only [Conf, ConfD]; exact hc e he)
  exact ⟨(a, b, zs), rfl, fun c hc => by have := bounds_u8 (hz c hc); omega⟩
end Go.Proofs.Ythobahlcphmafaa
