-- Written by a program of this session (wip/oprint): after the pattern of the kit's print, which does not take this law. -- trimmed
import Derived.Test.YtpcgjnjgenfhiaaPCrcTellsx0
import Derived.Test.YtpcgjnjgenfhiaaPCrcTellsx1
import Derived.Test.YtpcgjnjgenfhiaaPCrcTellsx2
namespace Go.Proofs.Ytpcgjnjgenfhiaa.PCrcTells
open Go.RowKit Go.Proofs.YtpcgjnjgenfhiaaW.PrintWords Go.Proofs.YtpcgjnjgenfhiaaW.PrintLast Go.Proofs.YtpcgjnjgenfhiaaW.PrintMore
attribute [local go_sem] max2_int min2_int max_two min_two max_three min_three max_four min_four   -- for this text's walks alone
set_option linter.unusedVariables false
set_option linter.unusedSimpArgs false

/-! ### stillagelaw01_CrcTells: function 10 -/
mutual
def stillagelaw01_CrcTells.j0 : Nat → List Int → List Int → Bool → Int → Int → Int → Option (Bool)
 | 0, _, _, _, _, _, _ => none
 | k + 1, x0, x2, x32, x111000, x111001, x111002 => if x32 = true then ((stillagelaw01_awake.f).bind fun t112 => (some t112)) else ((crc_Sum.f k x0).bind fun t113 => ((some (([] : List Int) : List Int)).bind fun y114 => (if y114.length + x0.length < 140737488355328 then (stillagelaw01_CrcTells.l0 k x0 x2 (IntKind.u64.wrap (wrap64 (8 * (x0.length : Int)))) t113 (y114 ++ x0) 0 x111000 x111001 x111002 0 0 0) else (none))))
def stillagelaw01_CrcTells.l0 : Nat → List Int → List Int → Int → Int → List Int → Int → Int → Int → Int → Int → Int → Int → Option (Bool)
 | 0, _, _, _, _, _, _, _, _, _, _, _, _ => none
 | k + 1, x0, x2, x7, x8, x9, x43, x111000, x111001, x111002, x121000, x121001, x121002 => if x43 < 3 then (if 0 ≤ x43 then (if x7 = 0 then (none) else (if x43 = 0 then (if 0 ≤ (wrap64 (Int.tdiv (wrap64 (Int.tmod (IntKind.u64.wrap (rd [x111000, x111001, x111002] x43)) x7)) 8)) then (if (wrap64 (Int.tdiv (wrap64 (Int.tmod (IntKind.u64.wrap (rd [x111000, x111001, x111002] x43)) x7)) 8)) < (x9.length : Int) then (if 0 ≤ (Int.tmod (wrap64 (Int.tmod (IntKind.u64.wrap (rd [x111000, x111001, x111002] x43)) x7)) 8) then ((some (x9.set ((wrap64 (Int.tdiv (wrap64 (Int.tmod (IntKind.u64.wrap (rd [x111000, x111001, x111002] x43)) x7)) 8)) : Int).toNat (Go.bits .xor .u8 (rd x9 (wrap64 (Int.tdiv (wrap64 (Int.tmod (IntKind.u64.wrap (rd [x111000, x111001, x111002] x43)) x7)) 8))) (shr .u8 128 (Int.tmod (wrap64 (Int.tmod (IntKind.u64.wrap (rd [x111000, x111001, x111002] x43)) x7)) 8))) : List Int)).bind fun y122 => (if 0 = 1 then (stillagelaw01_CrcTells.j2 k x0 x2 x7 x8 y122 0 ((wrap64 (Int.tmod (IntKind.u64.wrap (rd [x111000, x111001, x111002] x43)) x7)) != x121001) 0 x111000 x111001 x111002 (wrap64 (Int.tmod (IntKind.u64.wrap (rd [x111000, x111001, x111002] x43)) x7)) x121001 x121002) else (stillagelaw01_CrcTells.j2 k x0 x2 x7 x8 y122 0 true 0 x111000 x111001 x111002 (wrap64 (Int.tmod (IntKind.u64.wrap (rd [x111000, x111001, x111002] x43)) x7)) x121001 x121002))) else (none)) else (none)) else (none)) else (if x43 = 1 then (if 0 ≤ (wrap64 (Int.tdiv (wrap64 (Int.tmod (IntKind.u64.wrap (rd [x111000, x111001, x111002] x43)) x7)) 8)) then (if (wrap64 (Int.tdiv (wrap64 (Int.tmod (IntKind.u64.wrap (rd [x111000, x111001, x111002] x43)) x7)) 8)) < (x9.length : Int) then (if 0 ≤ (Int.tmod (wrap64 (Int.tmod (IntKind.u64.wrap (rd [x111000, x111001, x111002] x43)) x7)) 8) then ((some (x9.set ((wrap64 (Int.tdiv (wrap64 (Int.tmod (IntKind.u64.wrap (rd [x111000, x111001, x111002] x43)) x7)) 8)) : Int).toNat (Go.bits .xor .u8 (rd x9 (wrap64 (Int.tdiv (wrap64 (Int.tmod (IntKind.u64.wrap (rd [x111000, x111001, x111002] x43)) x7)) 8))) (shr .u8 128 (Int.tmod (wrap64 (Int.tmod (IntKind.u64.wrap (rd [x111000, x111001, x111002] x43)) x7)) 8))) : List Int)).bind fun y127 => (if 1 = 1 then (stillagelaw01_CrcTells.j5 k x0 x2 x7 x8 y127 1 (x121000 != (wrap64 (Int.tmod (IntKind.u64.wrap (rd [x111000, x111001, x111002] x43)) x7))) 1 x111000 x111001 x111002 x121000 (wrap64 (Int.tmod (IntKind.u64.wrap (rd [x111000, x111001, x111002] x43)) x7)) x121002) else (stillagelaw01_CrcTells.j5 k x0 x2 x7 x8 y127 1 true 1 x111000 x111001 x111002 x121000 (wrap64 (Int.tmod (IntKind.u64.wrap (rd [x111000, x111001, x111002] x43)) x7)) x121002))) else (none)) else (none)) else (none)) else (if x43 = 2 then (if 0 ≤ (wrap64 (Int.tdiv (wrap64 (Int.tmod (IntKind.u64.wrap (rd [x111000, x111001, x111002] x43)) x7)) 8)) then (if (wrap64 (Int.tdiv (wrap64 (Int.tmod (IntKind.u64.wrap (rd [x111000, x111001, x111002] x43)) x7)) 8)) < (x9.length : Int) then (if 0 ≤ (Int.tmod (wrap64 (Int.tmod (IntKind.u64.wrap (rd [x111000, x111001, x111002] x43)) x7)) 8) then ((some (x9.set ((wrap64 (Int.tdiv (wrap64 (Int.tmod (IntKind.u64.wrap (rd [x111000, x111001, x111002] x43)) x7)) 8)) : Int).toNat (Go.bits .xor .u8 (rd x9 (wrap64 (Int.tdiv (wrap64 (Int.tmod (IntKind.u64.wrap (rd [x111000, x111001, x111002] x43)) x7)) 8))) (shr .u8 128 (Int.tmod (wrap64 (Int.tmod (IntKind.u64.wrap (rd [x111000, x111001, x111002] x43)) x7)) 8))) : List Int)).bind fun y132 => (if 2 = 1 then (stillagelaw01_CrcTells.j8 k x0 x2 x7 x8 y132 2 (x121000 != x121001) 2 x111000 x111001 x111002 x121000 x121001 (wrap64 (Int.tmod (IntKind.u64.wrap (rd [x111000, x111001, x111002] x43)) x7))) else (stillagelaw01_CrcTells.j8 k x0 x2 x7 x8 y132 2 true 2 x111000 x111001 x111002 x121000 x121001 (wrap64 (Int.tmod (IntKind.u64.wrap (rd [x111000, x111001, x111002] x43)) x7))))) else (none)) else (none)) else (none)) else (none))))) else (none)) else ((some (([] : List Int) : List Int)).bind fun y136 => (if y136.length + x0.length < 140737488355328 then (stillagelaw01_CrcTells.l1 k x0 x2 x7 x8 (y136 ++ x0) 0 0) else (none)))
def stillagelaw01_CrcTells.j2 : Nat → List Int → List Int → Int → Int → List Int → Int → Bool → Int → Int → Int → Int → Int → Int → Int → Option (Bool)
 | 0, _, _, _, _, _, _, _, _, _, _, _, _, _, _ => none
 | k + 1, x0, x2, x7, x8, x9, x11, x12, x43, x111000, x111001, x111002, x121000, x121001, x121002 => if x11 = 2 then (if x121000 = x121001 then (stillagelaw01_CrcTells.j3 k x0 x2 x7 x8 x9 x11 x12 x43 false x111000 x111001 x111002 x121000 x121001 x121002) else (if x121002 = x121000 then (stillagelaw01_CrcTells.j3 k x0 x2 x7 x8 x9 x11 x12 x43 true x111000 x111001 x111002 x121000 x121001 x121002) else (stillagelaw01_CrcTells.j3 k x0 x2 x7 x8 x9 x11 x12 x43 (x121002 == x121001) x111000 x111001 x111002 x121000 x121001 x121002))) else (stillagelaw01_CrcTells.j3 k x0 x2 x7 x8 x9 x11 x12 x43 false x111000 x111001 x111002 x121000 x121001 x121002)
def stillagelaw01_CrcTells.j3 : Nat → List Int → List Int → Int → Int → List Int → Int → Bool → Int → Bool → Int → Int → Int → Int → Int → Int → Option (Bool)
 | 0, _, _, _, _, _, _, _, _, _, _, _, _, _, _, _ => none
 | k + 1, x0, x2, x7, x8, x9, x11, x12, x43, x100, x111000, x111001, x111002, x121000, x121001, x121002 => if x100 = true then (stillagelaw01_CrcTells.j4 k x0 x2 x7 x8 x9 x11 true x43 x111000 x111001 x111002 x121000 x121001 x121002) else (stillagelaw01_CrcTells.j4 k x0 x2 x7 x8 x9 x11 x12 x43 x111000 x111001 x111002 x121000 x121001 x121002)
def stillagelaw01_CrcTells.j4 : Nat → List Int → List Int → Int → Int → List Int → Int → Bool → Int → Int → Int → Int → Int → Int → Int → Option (Bool)
 | 0, _, _, _, _, _, _, _, _, _, _, _, _, _, _ => none
 | k + 1, x0, x2, x7, x8, x9, x11, x12, x43, x111000, x111001, x111002, x121000, x121001, x121002 => (crc_Sum.f k x9).bind fun t123 => (if ((t123 != x8) != x12) = true then (some false) else (if x11 = 0 then ((crc_Find.f k x9 x8).bind fun bt124 => (if bt124.2 = 0 then (if bt124.1 = x121000 then (stillagelaw01_CrcTells.l0 k x0 x2 x7 x8 x9 (wrap64 (x43 + 1)) x111000 x111001 x111002 x121000 x121001 x121002) else (some false)) else (some false))) else (stillagelaw01_CrcTells.l0 k x0 x2 x7 x8 x9 (wrap64 (x43 + 1)) x111000 x111001 x111002 x121000 x121001 x121002)))
def stillagelaw01_CrcTells.j5 : Nat → List Int → List Int → Int → Int → List Int → Int → Bool → Int → Int → Int → Int → Int → Int → Int → Option (Bool)
 | 0, _, _, _, _, _, _, _, _, _, _, _, _, _, _ => none
 | k + 1, x0, x2, x7, x8, x9, x11, x12, x43, x111000, x111001, x111002, x121000, x121001, x121002 => if x11 = 2 then (if x121000 = x121001 then (stillagelaw01_CrcTells.j6 k x0 x2 x7 x8 x9 x11 x12 x43 false x111000 x111001 x111002 x121000 x121001 x121002) else (if x121002 = x121000 then (stillagelaw01_CrcTells.j6 k x0 x2 x7 x8 x9 x11 x12 x43 true x111000 x111001 x111002 x121000 x121001 x121002) else (stillagelaw01_CrcTells.j6 k x0 x2 x7 x8 x9 x11 x12 x43 (x121002 == x121001) x111000 x111001 x111002 x121000 x121001 x121002))) else (stillagelaw01_CrcTells.j6 k x0 x2 x7 x8 x9 x11 x12 x43 false x111000 x111001 x111002 x121000 x121001 x121002)
def stillagelaw01_CrcTells.j6 : Nat → List Int → List Int → Int → Int → List Int → Int → Bool → Int → Bool → Int → Int → Int → Int → Int → Int → Option (Bool)
 | 0, _, _, _, _, _, _, _, _, _, _, _, _, _, _, _ => none
 | k + 1, x0, x2, x7, x8, x9, x11, x12, x43, x100, x111000, x111001, x111002, x121000, x121001, x121002 => if x100 = true then (stillagelaw01_CrcTells.j7 k x0 x2 x7 x8 x9 x11 true x43 x111000 x111001 x111002 x121000 x121001 x121002) else (stillagelaw01_CrcTells.j7 k x0 x2 x7 x8 x9 x11 x12 x43 x111000 x111001 x111002 x121000 x121001 x121002)
def stillagelaw01_CrcTells.j7 : Nat → List Int → List Int → Int → Int → List Int → Int → Bool → Int → Int → Int → Int → Int → Int → Int → Option (Bool)
 | 0, _, _, _, _, _, _, _, _, _, _, _, _, _, _ => none
 | k + 1, x0, x2, x7, x8, x9, x11, x12, x43, x111000, x111001, x111002, x121000, x121001, x121002 => (crc_Sum.f k x9).bind fun t128 => (if ((t128 != x8) != x12) = true then (some false) else (if x11 = 0 then ((crc_Find.f k x9 x8).bind fun bt129 => (if bt129.2 = 0 then (if bt129.1 = x121000 then (stillagelaw01_CrcTells.l0 k x0 x2 x7 x8 x9 (wrap64 (x43 + 1)) x111000 x111001 x111002 x121000 x121001 x121002) else (some false)) else (some false))) else (stillagelaw01_CrcTells.l0 k x0 x2 x7 x8 x9 (wrap64 (x43 + 1)) x111000 x111001 x111002 x121000 x121001 x121002)))
def stillagelaw01_CrcTells.j8 : Nat → List Int → List Int → Int → Int → List Int → Int → Bool → Int → Int → Int → Int → Int → Int → Int → Option (Bool)
 | 0, _, _, _, _, _, _, _, _, _, _, _, _, _, _ => none
 | k + 1, x0, x2, x7, x8, x9, x11, x12, x43, x111000, x111001, x111002, x121000, x121001, x121002 => if x11 = 2 then (if x121000 = x121001 then (stillagelaw01_CrcTells.j9 k x0 x2 x7 x8 x9 x11 x12 x43 false x111000 x111001 x111002 x121000 x121001 x121002) else (if x121002 = x121000 then (stillagelaw01_CrcTells.j9 k x0 x2 x7 x8 x9 x11 x12 x43 true x111000 x111001 x111002 x121000 x121001 x121002) else (stillagelaw01_CrcTells.j9 k x0 x2 x7 x8 x9 x11 x12 x43 (x121002 == x121001) x111000 x111001 x111002 x121000 x121001 x121002))) else (stillagelaw01_CrcTells.j9 k x0 x2 x7 x8 x9 x11 x12 x43 false x111000 x111001 x111002 x121000 x121001 x121002)
def stillagelaw01_CrcTells.j9 : Nat → List Int → List Int → Int → Int → List Int → Int → Bool → Int → Bool → Int → Int → Int → Int → Int → Int → Option (Bool)
 | 0, _, _, _, _, _, _, _, _, _, _, _, _, _, _, _ => none
 | k + 1, x0, x2, x7, x8, x9, x11, x12, x43, x100, x111000, x111001, x111002, x121000, x121001, x121002 => if x100 = true then (stillagelaw01_CrcTells.j10 k x0 x2 x7 x8 x9 x11 true x43 x111000 x111001 x111002 x121000 x121001 x121002) else (stillagelaw01_CrcTells.j10 k x0 x2 x7 x8 x9 x11 x12 x43 x111000 x111001 x111002 x121000 x121001 x121002)
def stillagelaw01_CrcTells.j10 : Nat → List Int → List Int → Int → Int → List Int → Int → Bool → Int → Int → Int → Int → Int → Int → Int → Option (Bool)
 | 0, _, _, _, _, _, _, _, _, _, _, _, _, _, _ => none
 | k + 1, x0, x2, x7, x8, x9, x11, x12, x43, x111000, x111001, x111002, x121000, x121001, x121002 => (crc_Sum.f k x9).bind fun t133 => (if ((t133 != x8) != x12) = true then (some false) else (if x11 = 0 then ((crc_Find.f k x9 x8).bind fun bt134 => (if bt134.2 = 0 then (if bt134.1 = x121000 then (stillagelaw01_CrcTells.l0 k x0 x2 x7 x8 x9 (wrap64 (x43 + 1)) x111000 x111001 x111002 x121000 x121001 x121002) else (some false)) else (some false))) else (stillagelaw01_CrcTells.l0 k x0 x2 x7 x8 x9 (wrap64 (x43 + 1)) x111000 x111001 x111002 x121000 x121001 x121002)))
def stillagelaw01_CrcTells.j12 : Nat → List Int → Int → List Int → Int → Option (Bool)
 | 0, _, _, _, _ => none
 | k + 1, x0, x8, x15, x16 => stillagelaw01_CrcTells.l2 k x0 x8 x15 x16 (x15.length : Int) 0
def stillagelaw01_CrcTells.l2 : Nat → List Int → Int → List Int → Int → Int → Int → Option (Bool)
 | 0, _, _, _, _, _, _ => none
 | k + 1, x0, x8, x15, x16, x156, x157 => if x157 < x156 then (if 0 ≤ x157 then (if x157 < (x15.length : Int) then (if x157 < (x0.length : Int) then (stillagelaw01_CrcTells.l3 k x0 x8 x15 x16 (Go.bits .xor .u8 (rd x15 x157) (rd x0 x157)) x156 x157) else (none)) else (none)) else (none)) else (if (Int.tmod x16 2) = 0 then (some true) else ((crc_Sum.f k x15).bind fun t145 => (some (t145 != x8))))
def stillagelaw01_CrcTells.l3 : Nat → List Int → Int → List Int → Int → Int → Int → Int → Option (Bool)
 | 0, _, _, _, _, _, _, _ => none
 | k + 1, x0, x8, x15, x16, x20, x156, x157 => if x20 = 0 then (stillagelaw01_CrcTells.l2 k x0 x8 x15 x16 x156 (wrap64 (x157 + 1))) else (stillagelaw01_CrcTells.l3 k x0 x8 x15 (wrap64 (x16 + 1)) (Go.bits .and .u8 x20 ((x20 - 1) % 256)) x156 x157)
def stillagelaw01_CrcTells.l1 : Nat → List Int → List Int → Int → Int → List Int → Int → Int → Option (Bool)
 | 0, _, _, _, _, _, _, _ => none
 | k + 1, x0, x2, x7, x8, x15, x16, x17 => if x17 < (x2.length : Int) then (if x17 < 101 then (if 0 ≤ x17 then (if x7 = 0 then (none) else (if 0 ≤ (wrap64 (Int.tdiv (wrap64 (Int.tmod (IntKind.u64.wrap (rd x2 x17)) x7)) 8)) then (if (wrap64 (Int.tdiv (wrap64 (Int.tmod (IntKind.u64.wrap (rd x2 x17)) x7)) 8)) < (x15.length : Int) then (if 0 ≤ (Int.tmod (wrap64 (Int.tmod (IntKind.u64.wrap (rd x2 x17)) x7)) 8) then (stillagelaw01_CrcTells.l1 k x0 x2 x7 x8 (x15.set ((wrap64 (Int.tdiv (wrap64 (Int.tmod (IntKind.u64.wrap (rd x2 x17)) x7)) 8)) : Int).toNat (Go.bits .xor .u8 (rd x15 (wrap64 (Int.tdiv (wrap64 (Int.tmod (IntKind.u64.wrap (rd x2 x17)) x7)) 8))) (shr .u8 128 (Int.tmod (wrap64 (Int.tmod (IntKind.u64.wrap (rd x2 x17)) x7)) 8)))) x16 (wrap64 (x17 + 1))) else (none)) else (none)) else (none))) else (none)) else (stillagelaw01_CrcTells.j12 k x0 x8 x15 x16)) else (stillagelaw01_CrcTells.j12 k x0 x8 x15 x16)
end
def stillagelaw01_CrcTells.f (k : Nat) (l0 : List Int) (a1_0 : Int) (a1_1 : Int) (a1_2 : Int) (l2 : List Int) : Option (Bool) := (stillagelaw01_awake.f).bind fun t111 => (if t111 = true then (if (l0.length : Int) = 0 then (stillagelaw01_CrcTells.j0 k l0 l2 true a1_0 a1_1 a1_2) else (stillagelaw01_CrcTells.j0 k l0 l2 (decide ((l0.length : Int) > 4000)) a1_0 a1_1 a1_2)) else (stillagelaw01_CrcTells.j0 k l0 l2 true a1_0 a1_1 a1_2))
theorem stillagelaw01_CrcTells.mono_l : ∀ k, (∀ y0 y1 y2 y3 y4 y5, LeO (stillagelaw01_CrcTells.j0 k y0 y1 y2 y3 y4 y5) (stillagelaw01_CrcTells.j0 (k + 1) y0 y1 y2 y3 y4 y5)) ∧ (∀ y0 y1 y2 y3 y4 y5 y6 y7 y8 y9 y10 y11, LeO (stillagelaw01_CrcTells.l0 k y0 y1 y2 y3 y4 y5 y6 y7 y8 y9 y10 y11) (stillagelaw01_CrcTells.l0 (k + 1) y0 y1 y2 y3 y4 y5 y6 y7 y8 y9 y10 y11)) ∧ (∀ y0 y1 y2 y3 y4 y5 y6 y7 y8 y9 y10 y11 y12 y13, LeO (stillagelaw01_CrcTells.j2 k y0 y1 y2 y3 y4 y5 y6 y7 y8 y9 y10 y11 y12 y13) (stillagelaw01_CrcTells.j2 (k + 1) y0 y1 y2 y3 y4 y5 y6 y7 y8 y9 y10 y11 y12 y13)) ∧ (∀ y0 y1 y2 y3 y4 y5 y6 y7 y8 y9 y10 y11 y12 y13 y14, LeO (stillagelaw01_CrcTells.j3 k y0 y1 y2 y3 y4 y5 y6 y7 y8 y9 y10 y11 y12 y13 y14) (stillagelaw01_CrcTells.j3 (k + 1) y0 y1 y2 y3 y4 y5 y6 y7 y8 y9 y10 y11 y12 y13 y14)) ∧ (∀ y0 y1 y2 y3 y4 y5 y6 y7 y8 y9 y10 y11 y12 y13, LeO (stillagelaw01_CrcTells.j4 k y0 y1 y2 y3 y4 y5 y6 y7 y8 y9 y10 y11 y12 y13) (stillagelaw01_CrcTells.j4 (k + 1) y0 y1 y2 y3 y4 y5 y6 y7 y8 y9 y10 y11 y12 y13)) ∧ (∀ y0 y1 y2 y3 y4 y5 y6 y7 y8 y9 y10 y11 y12 y13, LeO (stillagelaw01_CrcTells.j5 k y0 y1 y2 y3 y4 y5 y6 y7 y8 y9 y10 y11 y12 y13) (stillagelaw01_CrcTells.j5 (k + 1) y0 y1 y2 y3 y4 y5 y6 y7 y8 y9 y10 y11 y12 y13)) ∧ (∀ y0 y1 y2 y3 y4 y5 y6 y7 y8 y9 y10 y11 y12 y13 y14, LeO (stillagelaw01_CrcTells.j6 k y0 y1 y2 y3 y4 y5 y6 y7 y8 y9 y10 y11 y12 y13 y14) (stillagelaw01_CrcTells.j6 (k + 1) y0 y1 y2 y3 y4 y5 y6 y7 y8 y9 y10 y11 y12 y13 y14)) ∧ (∀ y0 y1 y2 y3 y4 y5 y6 y7 y8 y9 y10 y11 y12 y13, LeO (stillagelaw01_CrcTells.j7 k y0 y1 y2 y3 y4 y5 y6 y7 y8 y9 y10 y11 y12 y13) (stillagelaw01_CrcTells.j7 (k + 1) y0 y1 y2 y3 y4 y5 y6 y7 y8 y9 y10 y11 y12 y13)) ∧ (∀ y0 y1 y2 y3 y4 y5 y6 y7 y8 y9 y10 y11 y12 y13, LeO (stillagelaw01_CrcTells.j8 k y0 y1 y2 y3 y4 y5 y6 y7 y8 y9 y10 y11 y12 y13) (stillagelaw01_CrcTells.j8 (k + 1) y0 y1 y2 y3 y4 y5 y6 y7 y8 y9 y10 y11 y12 y13)) ∧ (∀ y0 y1 y2 y3 y4 y5 y6 y7 y8 y9 y10 y11 y12 y13 y14, LeO (stillagelaw01_CrcTells.j9 k y0 y1 y2 y3 y4 y5 y6 y7 y8 y9 y10 y11 y12 y13 y14) (stillagelaw01_CrcTells.j9 (k + 1) y0 y1 y2 y3 y4 y5 y6 y7 y8 y9 y10 y11 y12 y13 y14)) ∧ (∀ y0 y1 y2 y3 y4 y5 y6 y7 y8 y9 y10 y11 y12 y13, LeO (stillagelaw01_CrcTells.j10 k y0 y1 y2 y3 y4 y5 y6 y7 y8 y9 y10 y11 y12 y13) (stillagelaw01_CrcTells.j10 (k + 1) y0 y1 y2 y3 y4 y5 y6 y7 y8 y9 y10 y11 y12 y13)) ∧ (∀ y0 y1 y2 y3, LeO (stillagelaw01_CrcTells.j12 k y0 y1 y2 y3) (stillagelaw01_CrcTells.j12 (k + 1) y0 y1 y2 y3)) ∧ (∀ y0 y1 y2 y3 y4 y5, LeO (stillagelaw01_CrcTells.l2 k y0 y1 y2 y3 y4 y5) (stillagelaw01_CrcTells.l2 (k + 1) y0 y1 y2 y3 y4 y5)) ∧ (∀ y0 y1 y2 y3 y4 y5 y6, LeO (stillagelaw01_CrcTells.l3 k y0 y1 y2 y3 y4 y5 y6) (stillagelaw01_CrcTells.l3 (k + 1) y0 y1 y2 y3 y4 y5 y6)) ∧ (∀ y0 y1 y2 y3 y4 y5 y6, LeO (stillagelaw01_CrcTells.l1 k y0 y1 y2 y3 y4 y5 y6) (stillagelaw01_CrcTells.l1 (k + 1) y0 y1 y2 y3 y4 y5 y6))
 | 0 => ⟨fun _ _ _ _ _ _ r h => by simp [stillagelaw01_CrcTells.j0] at h, fun _ _ _ _ _ _ _ _ _ _ _ _ r h => by simp [stillagelaw01_CrcTells.l0] at h, fun _ _ _ _ _ _ _ _ _ _ _ _ _ _ r h => by simp [stillagelaw01_CrcTells.j2] at h, fun _ _ _ _ _ _ _ _ _ _ _ _ _ _ _ r h => by simp [stillagelaw01_CrcTells.j3] at h, fun _ _ _ _ _ _ _ _ _ _ _ _ _ _ r h => by simp [stillagelaw01_CrcTells.j4] at h, fun _ _ _ _ _ _ _ _ _ _ _ _ _ _ r h => by simp [stillagelaw01_CrcTells.j5] at h, fun _ _ _ _ _ _ _ _ _ _ _ _ _ _ _ r h => by simp [stillagelaw01_CrcTells.j6] at h, fun _ _ _ _ _ _ _ _ _ _ _ _ _ _ r h => by simp [stillagelaw01_CrcTells.j7] at h, fun _ _ _ _ _ _ _ _ _ _ _ _ _ _ r h => by simp [stillagelaw01_CrcTells.j8] at h, fun _ _ _ _ _ _ _ _ _ _ _ _ _ _ _ r h => by simp [stillagelaw01_CrcTells.j9] at h, fun _ _ _ _ _ _ _ _ _ _ _ _ _ _ r h => by simp [stillagelaw01_CrcTells.j10] at h, fun _ _ _ _ r h => by simp [stillagelaw01_CrcTells.j12] at h, fun _ _ _ _ _ _ r h => by simp [stillagelaw01_CrcTells.l2] at h, fun _ _ _ _ _ _ _ r h => by simp [stillagelaw01_CrcTells.l3] at h, fun _ _ _ _ _ _ _ r h => by simp [stillagelaw01_CrcTells.l1] at h⟩
 | k + 1 => by
  obtain ⟨ih0, ih1, ih2, ih3, ih4, ih5, ih6, ih7, ih8, ih9, ih10, ih11, ih12, ih13, ih14⟩ := stillagelaw01_CrcTells.mono_l k
  refine ⟨?_, ?_, ?_, ?_, ?_, ?_, ?_, ?_, ?_, ?_, ?_, ?_, ?_, ?_, ?_⟩
  ·intro y0 y1 y2 y3 y4 y5
   unfold stillagelaw01_CrcTells.j0
   repeat' first
   | (with_reducible exact ih0 _ _ _ _ _ _)
   | (with_reducible exact ih1 _ _ _ _ _ _ _ _ _ _ _ _)
   | (with_reducible exact ih2 _ _ _ _ _ _ _ _ _ _ _ _ _ _)
   | (with_reducible exact ih3 _ _ _ _ _ _ _ _ _ _ _ _ _ _ _)
   | (with_reducible exact ih4 _ _ _ _ _ _ _ _ _ _ _ _ _ _)
   | (with_reducible exact ih5 _ _ _ _ _ _ _ _ _ _ _ _ _ _)
   | (with_reducible exact ih6 _ _ _ _ _ _ _ _ _ _ _ _ _ _ _)
   | (with_reducible exact ih7 _ _ _ _ _ _ _ _ _ _ _ _ _ _)
   | (with_reducible exact ih8 _ _ _ _ _ _ _ _ _ _ _ _ _ _)
   | (with_reducible exact ih9 _ _ _ _ _ _ _ _ _ _ _ _ _ _ _)
   | (with_reducible exact ih10 _ _ _ _ _ _ _ _ _ _ _ _ _ _)
   | (with_reducible exact ih11 _ _ _ _)
   | (with_reducible exact ih12 _ _ _ _ _ _)
   | (with_reducible exact ih13 _ _ _ _ _ _ _)
   | (with_reducible exact ih14 _ _ _ _ _ _ _)
   | (with_reducible exact crc_Find.mono _ _ _)
   | (with_reducible exact crc_Sum.mono _ _)
   | (with_reducible exact LeO.refl _)
   | (with_reducible exact LeO.none _)
   | (with_reducible refine LeO.ite ?_ ?_)
   | (with_reducible refine LeO.bind ?_ (fun _ => ?_))
   | exact ih0 _ _ _ _ _ _
   | exact ih1 _ _ _ _ _ _ _ _ _ _ _ _
   | exact ih2 _ _ _ _ _ _ _ _ _ _ _ _ _ _
   | exact ih3 _ _ _ _ _ _ _ _ _ _ _ _ _ _ _
   | exact ih4 _ _ _ _ _ _ _ _ _ _ _ _ _ _
   | exact ih5 _ _ _ _ _ _ _ _ _ _ _ _ _ _
   | exact ih6 _ _ _ _ _ _ _ _ _ _ _ _ _ _ _
   | exact ih7 _ _ _ _ _ _ _ _ _ _ _ _ _ _
   | exact ih8 _ _ _ _ _ _ _ _ _ _ _ _ _ _
   | exact ih9 _ _ _ _ _ _ _ _ _ _ _ _ _ _ _
   | exact ih10 _ _ _ _ _ _ _ _ _ _ _ _ _ _
   | exact ih11 _ _ _ _
   | exact ih12 _ _ _ _ _ _
   | exact ih13 _ _ _ _ _ _ _
   | exact ih14 _ _ _ _ _ _ _
   | exact crc_Find.mono _ _ _
   | exact crc_Sum.mono _ _
   | exact LeO.none _
   | refine LeO.ite ?_ ?_
   | refine LeO.bind ?_ (fun _ => ?_)
  ·intro y0 y1 y2 y3 y4 y5 y6 y7 y8 y9 y10 y11
   unfold stillagelaw01_CrcTells.l0
   repeat' first
   | (with_reducible exact ih0 _ _ _ _ _ _)
   | (with_reducible exact ih1 _ _ _ _ _ _ _ _ _ _ _ _)
   | (with_reducible exact ih2 _ _ _ _ _ _ _ _ _ _ _ _ _ _)
   | (with_reducible exact ih3 _ _ _ _ _ _ _ _ _ _ _ _ _ _ _)
   | (with_reducible exact ih4 _ _ _ _ _ _ _ _ _ _ _ _ _ _)
   | (with_reducible exact ih5 _ _ _ _ _ _ _ _ _ _ _ _ _ _)
   | (with_reducible exact ih6 _ _ _ _ _ _ _ _ _ _ _ _ _ _ _)
   | (with_reducible exact ih7 _ _ _ _ _ _ _ _ _ _ _ _ _ _)
   | (with_reducible exact ih8 _ _ _ _ _ _ _ _ _ _ _ _ _ _)
   | (with_reducible exact ih9 _ _ _ _ _ _ _ _ _ _ _ _ _ _ _)
   | (with_reducible exact ih10 _ _ _ _ _ _ _ _ _ _ _ _ _ _)
   | (with_reducible exact ih11 _ _ _ _)
   | (with_reducible exact ih12 _ _ _ _ _ _)
   | (with_reducible exact ih13 _ _ _ _ _ _ _)
   | (with_reducible exact ih14 _ _ _ _ _ _ _)
   | (with_reducible exact crc_Find.mono _ _ _)
   | (with_reducible exact crc_Sum.mono _ _)
   | (with_reducible exact LeO.refl _)
   | (with_reducible exact LeO.none _)
   | (with_reducible refine LeO.ite ?_ ?_)
   | (with_reducible refine LeO.bind ?_ (fun _ => ?_))
   | exact ih0 _ _ _ _ _ _
   | exact ih1 _ _ _ _ _ _ _ _ _ _ _ _
   | exact ih2 _ _ _ _ _ _ _ _ _ _ _ _ _ _
   | exact ih3 _ _ _ _ _ _ _ _ _ _ _ _ _ _ _
   | exact ih4 _ _ _ _ _ _ _ _ _ _ _ _ _ _
   | exact ih5 _ _ _ _ _ _ _ _ _ _ _ _ _ _
   | exact ih6 _ _ _ _ _ _ _ _ _ _ _ _ _ _ _
   | exact ih7 _ _ _ _ _ _ _ _ _ _ _ _ _ _
   | exact ih8 _ _ _ _ _ _ _ _ _ _ _ _ _ _
   | exact ih9 _ _ _ _ _ _ _ _ _ _ _ _ _ _ _
   | exact ih10 _ _ _ _ _ _ _ _ _ _ _ _ _ _
   | exact ih11 _ _ _ _
   | exact ih12 _ _ _ _ _ _
   | exact ih13 _ _ _ _ _ _ _
   | exact ih14 _ _ _ _ _ _ _
   | exact crc_Find.mono _ _ _
   | exact crc_Sum.mono _ _
   | exact LeO.none _
   | refine LeO.ite ?_ ?_
   | refine LeO.bind ?_ (fun _ => ?_)
  ·intro y0 y1 y2 y3 y4 y5 y6 y7 y8 y9 y10 y11 y12 y13
   unfold stillagelaw01_CrcTells.j2
   repeat' first
   | (with_reducible exact ih0 _ _ _ _ _ _)
   | (with_reducible exact ih1 _ _ _ _ _ _ _ _ _ _ _ _)
   | (with_reducible exact ih2 _ _ _ _ _ _ _ _ _ _ _ _ _ _)
   | (with_reducible exact ih3 _ _ _ _ _ _ _ _ _ _ _ _ _ _ _)
   | (with_reducible exact ih4 _ _ _ _ _ _ _ _ _ _ _ _ _ _)
   | (with_reducible exact ih5 _ _ _ _ _ _ _ _ _ _ _ _ _ _)
   | (with_reducible exact ih6 _ _ _ _ _ _ _ _ _ _ _ _ _ _ _)
   | (with_reducible exact ih7 _ _ _ _ _ _ _ _ _ _ _ _ _ _)
   | (with_reducible exact ih8 _ _ _ _ _ _ _ _ _ _ _ _ _ _)
   | (with_reducible exact ih9 _ _ _ _ _ _ _ _ _ _ _ _ _ _ _)
   | (with_reducible exact ih10 _ _ _ _ _ _ _ _ _ _ _ _ _ _)
   | (with_reducible exact ih11 _ _ _ _)
   | (with_reducible exact ih12 _ _ _ _ _ _)
   | (with_reducible exact ih13 _ _ _ _ _ _ _)
   | (with_reducible exact ih14 _ _ _ _ _ _ _)
   | (with_reducible exact crc_Find.mono _ _ _)
   | (with_reducible exact crc_Sum.mono _ _)
   | (with_reducible exact LeO.refl _)
   | (with_reducible exact LeO.none _)
   | (with_reducible refine LeO.ite ?_ ?_)
   | (with_reducible refine LeO.bind ?_ (fun _ => ?_))
   | exact ih0 _ _ _ _ _ _
   | exact ih1 _ _ _ _ _ _ _ _ _ _ _ _
   | exact ih2 _ _ _ _ _ _ _ _ _ _ _ _ _ _
   | exact ih3 _ _ _ _ _ _ _ _ _ _ _ _ _ _ _
   | exact ih4 _ _ _ _ _ _ _ _ _ _ _ _ _ _
   | exact ih5 _ _ _ _ _ _ _ _ _ _ _ _ _ _
   | exact ih6 _ _ _ _ _ _ _ _ _ _ _ _ _ _ _
   | exact ih7 _ _ _ _ _ _ _ _ _ _ _ _ _ _
   | exact ih8 _ _ _ _ _ _ _ _ _ _ _ _ _ _
   | exact ih9 _ _ _ _ _ _ _ _ _ _ _ _ _ _ _
   | exact ih10 _ _ _ _ _ _ _ _ _ _ _ _ _ _
   | exact ih11 _ _ _ _
   | exact ih12 _ _ _ _ _ _
   | exact ih13 _ _ _ _ _ _ _
   | exact ih14 _ _ _ _ _ _ _
   | exact crc_Find.mono _ _ _
   | exact crc_Sum.mono _ _
   | exact LeO.none _
   | refine LeO.ite ?_ ?_
   | refine LeO.bind ?_ (fun _ => ?_)
  ·intro y0 y1 y2 y3 y4 y5 y6 y7 y8 y9 y10 y11 y12 y13 y14
   unfold stillagelaw01_CrcTells.j3
   repeat' first
   | (with_reducible exact ih0 _ _ _ _ _ _)
   | (with_reducible exact ih1 _ _ _ _ _ _ _ _ _ _ _ _)
   | (with_reducible exact ih2 _ _ _ _ _ _ _ _ _ _ _ _ _ _)
   | (with_reducible exact ih3 _ _ _ _ _ _ _ _ _ _ _ _ _ _ _)
   | (with_reducible exact ih4 _ _ _ _ _ _ _ _ _ _ _ _ _ _)
   | (with_reducible exact ih5 _ _ _ _ _ _ _ _ _ _ _ _ _ _)
   | (with_reducible exact ih6 _ _ _ _ _ _ _ _ _ _ _ _ _ _ _)
   | (with_reducible exact ih7 _ _ _ _ _ _ _ _ _ _ _ _ _ _)
   | (with_reducible exact ih8 _ _ _ _ _ _ _ _ _ _ _ _ _ _)
   | (with_reducible exact ih9 _ _ _ _ _ _ _ _ _ _ _ _ _ _ _)
   | (with_reducible exact ih10 _ _ _ _ _ _ _ _ _ _ _ _ _ _)
   | (with_reducible exact ih11 _ _ _ _)
   | (with_reducible exact ih12 _ _ _ _ _ _)
   | (with_reducible exact ih13 _ _ _ _ _ _ _)
   | (with_reducible exact ih14 _ _ _ _ _ _ _)
   | (with_reducible exact crc_Find.mono _ _ _)
   | (with_reducible exact crc_Sum.mono _ _)
   | (with_reducible exact LeO.refl _)
   | (with_reducible exact LeO.none _)
   | (with_reducible refine LeO.ite ?_ ?_)
   | (with_reducible refine LeO.bind ?_ (fun _ => ?_))
   | exact ih0 _ _ _ _ _ _
   | exact ih1 _ _ _ _ _ _ _ _ _ _ _ _
   | exact ih2 _ _ _ _ _ _ _ _ _ _ _ _ _ _
   | exact ih3 _ _ _ _ _ _ _ _ _ _ _ _ _ _ _
   | exact ih4 _ _ _ _ _ _ _ _ _ _ _ _ _ _
   | exact ih5 _ _ _ _ _ _ _ _ _ _ _ _ _ _
   | exact ih6 _ _ _ _ _ _ _ _ _ _ _ _ _ _ _
   | exact ih7 _ _ _ _ _ _ _ _ _ _ _ _ _ _
   | exact ih8 _ _ _ _ _ _ _ _ _ _ _ _ _ _
   | exact ih9 _ _ _ _ _ _ _ _ _ _ _ _ _ _ _
   | exact ih10 _ _ _ _ _ _ _ _ _ _ _ _ _ _
   | exact ih11 _ _ _ _
   | exact ih12 _ _ _ _ _ _
   | exact ih13 _ _ _ _ _ _ _
   | exact ih14 _ _ _ _ _ _ _
   | exact crc_Find.mono _ _ _
   | exact crc_Sum.mono _ _
   | exact LeO.none _
   | refine LeO.ite ?_ ?_
   | refine LeO.bind ?_ (fun _ => ?_)
  ·intro y0 y1 y2 y3 y4 y5 y6 y7 y8 y9 y10 y11 y12 y13
   unfold stillagelaw01_CrcTells.j4
   repeat' first
   | (with_reducible exact ih0 _ _ _ _ _ _)
   | (with_reducible exact ih1 _ _ _ _ _ _ _ _ _ _ _ _)
   | (with_reducible exact ih2 _ _ _ _ _ _ _ _ _ _ _ _ _ _)
   | (with_reducible exact ih3 _ _ _ _ _ _ _ _ _ _ _ _ _ _ _)
   | (with_reducible exact ih4 _ _ _ _ _ _ _ _ _ _ _ _ _ _)
   | (with_reducible exact ih5 _ _ _ _ _ _ _ _ _ _ _ _ _ _)
   | (with_reducible exact ih6 _ _ _ _ _ _ _ _ _ _ _ _ _ _ _)
   | (with_reducible exact ih7 _ _ _ _ _ _ _ _ _ _ _ _ _ _)
   | (with_reducible exact ih8 _ _ _ _ _ _ _ _ _ _ _ _ _ _)
   | (with_reducible exact ih9 _ _ _ _ _ _ _ _ _ _ _ _ _ _ _)
   | (with_reducible exact ih10 _ _ _ _ _ _ _ _ _ _ _ _ _ _)
   | (with_reducible exact ih11 _ _ _ _)
   | (with_reducible exact ih12 _ _ _ _ _ _)
   | (with_reducible exact ih13 _ _ _ _ _ _ _)
   | (with_reducible exact ih14 _ _ _ _ _ _ _)
   | (with_reducible exact crc_Find.mono _ _ _)
   | (with_reducible exact crc_Sum.mono _ _)
   | (with_reducible exact LeO.refl _)
   | (with_reducible exact LeO.none _)
   | (with_reducible refine LeO.ite ?_ ?_)
   | (with_reducible refine LeO.bind ?_ (fun _ => ?_))
   | exact ih0 _ _ _ _ _ _
   | exact ih1 _ _ _ _ _ _ _ _ _ _ _ _
   | exact ih2 _ _ _ _ _ _ _ _ _ _ _ _ _ _
   | exact ih3 _ _ _ _ _ _ _ _ _ _ _ _ _ _ _
   | exact ih4 _ _ _ _ _ _ _ _ _ _ _ _ _ _
   | exact ih5 _ _ _ _ _ _ _ _ _ _ _ _ _ _
   | exact ih6 _ _ _ _ _ _ _ _ _ _ _ _ _ _ _
   | exact ih7 _ _ _ _ _ _ _ _ _ _ _ _ _ _
   | exact ih8 _ _ _ _ _ _ _ _ _ _ _ _ _ _
   | exact ih9 _ _ _ _ _ _ _ _ _ _ _ _ _ _ _
   | exact ih10 _ _ _ _ _ _ _ _ _ _ _ _ _ _
   | exact ih11 _ _ _ _
   | exact ih12 _ _ _ _ _ _
   | exact ih13 _ _ _ _ _ _ _
   | exact ih14 _ _ _ _ _ _ _
   | exact crc_Find.mono _ _ _
   | exact crc_Sum.mono _ _
   | exact LeO.none _
   | refine LeO.ite ?_ ?_
   | refine LeO.bind ?_ (fun _ => ?_)
  ·intro y0 y1 y2 y3 y4 y5 y6 y7 y8 y9 y10 y11 y12 y13
   unfold stillagelaw01_CrcTells.j5
   repeat' first
   | (with_reducible exact ih0 _ _ _ _ _ _)
   | (with_reducible exact ih1 _ _ _ _ _ _ _ _ _ _ _ _)
   | (with_reducible exact ih2 _ _ _ _ _ _ _ _ _ _ _ _ _ _)
   | (with_reducible exact ih3 _ _ _ _ _ _ _ _ _ _ _ _ _ _ _)
   | (with_reducible exact ih4 _ _ _ _ _ _ _ _ _ _ _ _ _ _)
   | (with_reducible exact ih5 _ _ _ _ _ _ _ _ _ _ _ _ _ _)
   | (with_reducible exact ih6 _ _ _ _ _ _ _ _ _ _ _ _ _ _ _)
   | (with_reducible exact ih7 _ _ _ _ _ _ _ _ _ _ _ _ _ _)
   | (with_reducible exact ih8 _ _ _ _ _ _ _ _ _ _ _ _ _ _)
   | (with_reducible exact ih9 _ _ _ _ _ _ _ _ _ _ _ _ _ _ _)
   | (with_reducible exact ih10 _ _ _ _ _ _ _ _ _ _ _ _ _ _)
   | (with_reducible exact ih11 _ _ _ _)
   | (with_reducible exact ih12 _ _ _ _ _ _)
   | (with_reducible exact ih13 _ _ _ _ _ _ _)
   | (with_reducible exact ih14 _ _ _ _ _ _ _)
   | (with_reducible exact crc_Find.mono _ _ _)
   | (with_reducible exact crc_Sum.mono _ _)
   | (with_reducible exact LeO.refl _)
   | (with_reducible exact LeO.none _)
   | (with_reducible refine LeO.ite ?_ ?_)
   | (with_reducible refine LeO.bind ?_ (fun _ => ?_))
   | exact ih0 _ _ _ _ _ _
   | exact ih1 _ _ _ _ _ _ _ _ _ _ _ _
   | exact ih2 _ _ _ _ _ _ _ _ _ _ _ _ _ _
   | exact ih3 _ _ _ _ _ _ _ _ _ _ _ _ _ _ _
   | exact ih4 _ _ _ _ _ _ _ _ _ _ _ _ _ _
   | exact ih5 _ _ _ _ _ _ _ _ _ _ _ _ _ _
   | exact ih6 _ _ _ _ _ _ _ _ _ _ _ _ _ _ _
   | exact ih7 _ _ _ _ _ _ _ _ _ _ _ _ _ _
   | exact ih8 _ _ _ _ _ _ _ _ _ _ _ _ _ _
   | exact ih9 _ _ _ _ _ _ _ _ _ _ _ _ _ _ _
   | exact ih10 _ _ _ _ _ _ _ _ _ _ _ _ _ _
   | exact ih11 _ _ _ _
   | exact ih12 _ _ _ _ _ _
   | exact ih13 _ _ _ _ _ _ _
   | exact ih14 _ _ _ _ _ _ _
   | exact crc_Find.mono _ _ _
   | exact crc_Sum.mono _ _
   | exact LeO.none _
   | refine LeO.ite ?_ ?_
   | refine LeO.bind ?_ (fun _ => ?_)
  ·intro y0 y1 y2 y3 y4 y5 y6 y7 y8 y9 y10 y11 y12 y13 y14
   unfold stillagelaw01_CrcTells.j6
   repeat' first
   | (with_reducible exact ih0 _ _ _ _ _ _)
   | (with_reducible exact ih1 _ _ _ _ _ _ _ _ _ _ _ _)
   | (with_reducible exact ih2 _ _ _ _ _ _ _ _ _ _ _ _ _ _)
   | (with_reducible exact ih3 _ _ _ _ _ _ _ _ _ _ _ _ _ _ _)
   | (with_reducible exact ih4 _ _ _ _ _ _ _ _ _ _ _ _ _ _)
   | (with_reducible exact ih5 _ _ _ _ _ _ _ _ _ _ _ _ _ _)
   | (with_reducible exact ih6 _ _ _ _ _ _ _ _ _ _ _ _ _ _ _)
   | (with_reducible exact ih7 _ _ _ _ _ _ _ _ _ _ _ _ _ _)
   | (with_reducible exact ih8 _ _ _ _ _ _ _ _ _ _ _ _ _ _)
   | (with_reducible exact ih9 _ _ _ _ _ _ _ _ _ _ _ _ _ _ _)
   | (with_reducible exact ih10 _ _ _ _ _ _ _ _ _ _ _ _ _ _)
   | (with_reducible exact ih11 _ _ _ _)
   | (with_reducible exact ih12 _ _ _ _ _ _)
   | (with_reducible exact ih13 _ _ _ _ _ _ _)
   | (with_reducible exact ih14 _ _ _ _ _ _ _)
   | (with_reducible exact crc_Find.mono _ _ _)
   | (with_reducible exact crc_Sum.mono _ _)
   | (with_reducible exact LeO.refl _)
   | (with_reducible exact LeO.none _)
   | (with_reducible refine LeO.ite ?_ ?_)
   | (with_reducible refine LeO.bind ?_ (fun _ => ?_))
   | exact ih0 _ _ _ _ _ _
   | exact ih1 _ _ _ _ _ _ _ _ _ _ _ _
   | exact ih2 _ _ _ _ _ _ _ _ _ _ _ _ _ _
   | exact ih3 _ _ _ _ _ _ _ _ _ _ _ _ _ _ _
   | exact ih4 _ _ _ _ _ _ _ _ _ _ _ _ _ _
   | exact ih5 _ _ _ _ _ _ _ _ _ _ _ _ _ _
   | exact ih6 _ _ _ _ _ _ _ _ _ _ _ _ _ _ _
   | exact ih7 _ _ _ _ _ _ _ _ _ _ _ _ _ _
   | exact ih8 _ _ _ _ _ _ _ _ _ _ _ _ _ _
   | exact ih9 _ _ _ _ _ _ _ _ _ _ _ _ _ _ _
   | exact ih10 _ _ _ _ _ _ _ _ _ _ _ _ _ _
   | exact ih11 _ _ _ _
   | exact ih12 _ _ _ _ _ _
   | exact ih13 _ _ _ _ _ _ _
   | exact ih14 _ _ _ _ _ _ _
   | exact crc_Find.mono _ _ _
   | exact crc_Sum.mono _ _
   | exact LeO.none _
   | refine LeO.ite ?_ ?_
   | refine LeO.bind ?_ (fun _ => ?_)
  ·intro y0 y1 y2 y3 y4 y5 y6 y7 y8 y9 y10 y11 y12 y13
   unfold stillagelaw01_CrcTells.j7
   repeat' first
   | (with_reducible exact ih0 _ _ _ _ _ _)
   | (with_reducible exact ih1 _ _ _ _ _ _ _ _ _ _ _ _)
   | (with_reducible exact ih2 _ _ _ _ _ _ _ _ _ _ _ _ _ _)
   | (with_reducible exact ih3 _ _ _ _ _ _ _ _ _ _ _ _ _ _ _)
   | (with_reducible exact ih4 _ _ _ _ _ _ _ _ _ _ _ _ _ _)
   | (with_reducible exact ih5 _ _ _ _ _ _ _ _ _ _ _ _ _ _)
   | (with_reducible exact ih6 _ _ _ _ _ _ _ _ _ _ _ _ _ _ _)
   | (with_reducible exact ih7 _ _ _ _ _ _ _ _ _ _ _ _ _ _)
   | (with_reducible exact ih8 _ _ _ _ _ _ _ _ _ _ _ _ _ _)
   | (with_reducible exact ih9 _ _ _ _ _ _ _ _ _ _ _ _ _ _ _)
   | (with_reducible exact ih10 _ _ _ _ _ _ _ _ _ _ _ _ _ _)
   | (with_reducible exact ih11 _ _ _ _)
   | (with_reducible exact ih12 _ _ _ _ _ _)
   | (with_reducible exact ih13 _ _ _ _ _ _ _)
   | (with_reducible exact ih14 _ _ _ _ _ _ _)
   | (with_reducible exact crc_Find.mono _ _ _)
   | (with_reducible exact crc_Sum.mono _ _)
   | (with_reducible exact LeO.refl _)
   | (with_reducible exact LeO.none _)
   | (with_reducible refine LeO.ite ?_ ?_)
   | (with_reducible refine LeO.bind ?_ (fun _ => ?_))
   | exact ih0 _ _ _ _ _ _
   | exact ih1 _ _ _ _ _ _ _ _ _ _ _ _
   | exact ih2 _ _ _ _ _ _ _ _ _ _ _ _ _ _
   | exact ih3 _ _ _ _ _ _ _ _ _ _ _ _ _ _ _
   | exact ih4 _ _ _ _ _ _ _ _ _ _ _ _ _ _
   | exact ih5 _ _ _ _ _ _ _ _ _ _ _ _ _ _
   | exact ih6 _ _ _ _ _ _ _ _ _ _ _ _ _ _ _
   | exact ih7 _ _ _ _ _ _ _ _ _ _ _ _ _ _
   | exact ih8 _ _ _ _ _ _ _ _ _ _ _ _ _ _
   | exact ih9 _ _ _ _ _ _ _ _ _ _ _ _ _ _ _
   | exact ih10 _ _ _ _ _ _ _ _ _ _ _ _ _ _
   | exact ih11 _ _ _ _
   | exact ih12 _ _ _ _ _ _
   | exact ih13 _ _ _ _ _ _ _
   | exact ih14 _ _ _ _ _ _ _
   | exact crc_Find.mono _ _ _
   | exact crc_Sum.mono _ _
   | exact LeO.none _
   | refine LeO.ite ?_ ?_
   | refine LeO.bind ?_ (fun _ => ?_)
  ·intro y0 y1 y2 y3 y4 y5 y6 y7 y8 y9 y10 y11 y12 y13
   unfold stillagelaw01_CrcTells.j8
   repeat' first
   | (with_reducible exact ih0 _ _ _ _ _ _)
   | (with_reducible exact ih1 _ _ _ _ _ _ _ _ _ _ _ _)
   | (with_reducible exact ih2 _ _ _ _ _ _ _ _ _ _ _ _ _ _)
   | (with_reducible exact ih3 _ _ _ _ _ _ _ _ _ _ _ _ _ _ _)
   | (with_reducible exact ih4 _ _ _ _ _ _ _ _ _ _ _ _ _ _)
   | (with_reducible exact ih5 _ _ _ _ _ _ _ _ _ _ _ _ _ _)
   | (with_reducible exact ih6 _ _ _ _ _ _ _ _ _ _ _ _ _ _ _)
   | (with_reducible exact ih7 _ _ _ _ _ _ _ _ _ _ _ _ _ _)
   | (with_reducible exact ih8 _ _ _ _ _ _ _ _ _ _ _ _ _ _)
   | (with_reducible exact ih9 _ _ _ _ _ _ _ _ _ _ _ _ _ _ _)
   | (with_reducible exact ih10 _ _ _ _ _ _ _ _ _ _ _ _ _ _)
   | (with_reducible exact ih11 _ _ _ _)
   | (with_reducible exact ih12 _ _ _ _ _ _)
   | (with_reducible exact ih13 _ _ _ _ _ _ _)
   | (with_reducible exact ih14 _ _ _ _ _ _ _)
   | (with_reducible exact crc_Find.mono _ _ _)
   | (with_reducible exact crc_Sum.mono _ _)
   | (with_reducible exact LeO.refl _)
   | (with_reducible exact LeO.none _)
   | (with_reducible refine LeO.ite ?_ ?_)
   | (with_reducible refine LeO.bind ?_ (fun _ => ?_))
   | exact ih0 _ _ _ _ _ _
   | exact ih1 _ _ _ _ _ _ _ _ _ _ _ _
   | exact ih2 _ _ _ _ _ _ _ _ _ _ _ _ _ _
   | exact ih3 _ _ _ _ _ _ _ _ _ _ _ _ _ _ _
   | exact ih4 _ _ _ _ _ _ _ _ _ _ _ _ _ _
   | exact ih5 _ _ _ _ _ _ _ _ _ _ _ _ _ _
   | exact ih6 _ _ _ _ _ _ _ _ _ _ _ _ _ _ _
   | exact ih7 _ _ _ _ _ _ _ _ _ _ _ _ _ _
   | exact ih8 _ _ _ _ _ _ _ _ _ _ _ _ _ _
   | exact ih9 _ _ _ _ _ _ _ _ _ _ _ _ _ _ _
   | exact ih10 _ _ _ _ _ _ _ _ _ _ _ _ _ _
   | exact ih11 _ _ _ _
   | exact ih12 _ _ _ _ _ _
   | exact ih13 _ _ _ _ _ _ _
   | exact ih14 _ _ _ _ _ _ _
   | exact crc_Find.mono _ _ _
   | exact crc_Sum.mono _ _
   | exact LeO.none _
   | refine LeO.ite ?_ ?_
   | refine LeO.bind ?_ (fun _ => ?_)
  ·intro y0 y1 y2 y3 y4 y5 y6 y7 y8 y9 y10 y11 y12 y13 y14
   unfold stillagelaw01_CrcTells.j9
   repeat' first
   | (with_reducible exact ih0 _ _ _ _ _ _)
   | (with_reducible exact ih1 _ _ _ _ _ _ _ _ _ _ _ _)
   | (with_reducible exact ih2 _ _ _ _ _ _ _ _ _ _ _ _ _ _)
   | (with_reducible exact ih3 _ _ _ _ _ _ _ _ _ _ _ _ _ _ _)
   | (with_reducible exact ih4 _ _ _ _ _ _ _ _ _ _ _ _ _ _)
   | (with_reducible exact ih5 _ _ _ _ _ _ _ _ _ _ _ _ _ _)
   | (with_reducible exact ih6 _ _ _ _ _ _ _ _ _ _ _ _ _ _ _)
   | (with_reducible exact ih7 _ _ _ _ _ _ _ _ _ _ _ _ _ _)
   | (with_reducible exact ih8 _ _ _ _ _ _ _ _ _ _ _ _ _ _)
   | (with_reducible exact ih9 _ _ _ _ _ _ _ _ _ _ _ _ _ _ _)
   | (with_reducible exact ih10 _ _ _ _ _ _ _ _ _ _ _ _ _ _)
   | (with_reducible exact ih11 _ _ _ _)
   | (with_reducible exact ih12 _ _ _ _ _ _)
   | (with_reducible exact ih13 _ _ _ _ _ _ _)
   | (with_reducible exact ih14 _ _ _ _ _ _ _)
   | (with_reducible exact crc_Find.mono _ _ _)
   | (with_reducible exact crc_Sum.mono _ _)
   | (with_reducible exact LeO.refl _)
   | (with_reducible exact LeO.none _)
   | (with_reducible refine LeO.ite ?_ ?_)
   | (with_reducible refine LeO.bind ?_ (fun _ => ?_))
   | exact ih0 _ _ _ _ _ _
   | exact ih1 _ _ _ _ _ _ _ _ _ _ _ _
   | exact ih2 _ _ _ _ _ _ _ _ _ _ _ _ _ _
   | exact ih3 _ _ _ _ _ _ _ _ _ _ _ _ _ _ _
   | exact ih4 _ _ _ _ _ _ _ _ _ _ _ _ _ _
   | exact ih5 _ _ _ _ _ _ _ _ _ _ _ _ _ _
   | exact ih6 _ _ _ _ _ _ _ _ _ _ _ _ _ _ _
   | exact ih7 _ _ _ _ _ _ _ _ _ _ _ _ _ _
   | exact ih8 _ _ _ _ _ _ _ _ _ _ _ _ _ _
   | exact ih9 _ _ _ _ _ _ _ _ _ _ _ _ _ _ _
   | exact ih10 _ _ _ _ _ _ _ _ _ _ _ _ _ _
   | exact ih11 _ _ _ _
   | exact ih12 _ _ _ _ _ _
   | exact ih13 _ _ _ _ _ _ _
   | exact ih14 _ _ _ _ _ _ _
   | exact crc_Find.mono _ _ _
   | exact crc_Sum.mono _ _
   | exact LeO.none _
   | refine LeO.ite ?_ ?_
   | refine LeO.bind ?_ (fun _ => ?_)
  ·intro y0 y1 y2 y3 y4 y5 y6 y7 y8 y9 y10 y11 y12 y13
   unfold stillagelaw01_CrcTells.j10
   repeat' first
   | (with_reducible exact ih0 _ _ _ _ _ _)
   | (with_reducible exact ih1 _ _ _ _ _ _ _ _ _ _ _ _)
   | (with_reducible exact ih2 _ _ _ _ _ _ _ _ _ _ _ _ _ _)
   | (with_reducible exact ih3 _ _ _ _ _ _ _ _ _ _ _ _ _ _ _)
   | (with_reducible exact ih4 _ _ _ _ _ _ _ _ _ _ _ _ _ _)
   | (with_reducible exact ih5 _ _ _ _ _ _ _ _ _ _ _ _ _ _)
   | (with_reducible exact ih6 _ _ _ _ _ _ _ _ _ _ _ _ _ _ _)
   | (with_reducible exact ih7 _ _ _ _ _ _ _ _ _ _ _ _ _ _)
   | (with_reducible exact ih8 _ _ _ _ _ _ _ _ _ _ _ _ _ _)
   | (with_reducible exact ih9 _ _ _ _ _ _ _ _ _ _ _ _ _ _ _)
   | (with_reducible exact ih10 _ _ _ _ _ _ _ _ _ _ _ _ _ _)
   | (with_reducible exact ih11 _ _ _ _)
   | (with_reducible exact ih12 _ _ _ _ _ _)
   | (with_reducible exact ih13 _ _ _ _ _ _ _)
   | (with_reducible exact ih14 _ _ _ _ _ _ _)
   | (with_reducible exact crc_Find.mono _ _ _)
   | (with_reducible exact crc_Sum.mono _ _)
   | (with_reducible exact LeO.refl _)
   | (with_reducible exact LeO.none _)
   | (with_reducible refine LeO.ite ?_ ?_)
   | (with_reducible refine LeO.bind ?_ (fun _ => ?_))
   | exact ih0 _ _ _ _ _ _
   | exact ih1 _ _ _ _ _ _ _ _ _ _ _ _
   | exact ih2 _ _ _ _ _ _ _ _ _ _ _ _ _ _
   | exact ih3 _ _ _ _ _ _ _ _ _ _ _ _ _ _ _
   | exact ih4 _ _ _ _ _ _ _ _ _ _ _ _ _ _
   | exact ih5 _ _ _ _ _ _ _ _ _ _ _ _ _ _
   | exact ih6 _ _ _ _ _ _ _ _ _ _ _ _ _ _ _
   | exact ih7 _ _ _ _ _ _ _ _ _ _ _ _ _ _
   | exact ih8 _ _ _ _ _ _ _ _ _ _ _ _ _ _
   | exact ih9 _ _ _ _ _ _ _ _ _ _ _ _ _ _ _
   | exact ih10 _ _ _ _ _ _ _ _ _ _ _ _ _ _
   | exact ih11 _ _ _ _
   | exact ih12 _ _ _ _ _ _
   | exact ih13 _ _ _ _ _ _ _
   | exact ih14 _ _ _ _ _ _ _
   | exact crc_Find.mono _ _ _
   | exact crc_Sum.mono _ _
   | exact LeO.none _
   | refine LeO.ite ?_ ?_
   | refine LeO.bind ?_ (fun _ => ?_)
  ·intro y0 y1 y2 y3
   unfold stillagelaw01_CrcTells.j12
   repeat' first
   | (with_reducible exact ih0 _ _ _ _ _ _)
   | (with_reducible exact ih1 _ _ _ _ _ _ _ _ _ _ _ _)
   | (with_reducible exact ih2 _ _ _ _ _ _ _ _ _ _ _ _ _ _)
   | (with_reducible exact ih3 _ _ _ _ _ _ _ _ _ _ _ _ _ _ _)
   | (with_reducible exact ih4 _ _ _ _ _ _ _ _ _ _ _ _ _ _)
   | (with_reducible exact ih5 _ _ _ _ _ _ _ _ _ _ _ _ _ _)
   | (with_reducible exact ih6 _ _ _ _ _ _ _ _ _ _ _ _ _ _ _)
   | (with_reducible exact ih7 _ _ _ _ _ _ _ _ _ _ _ _ _ _)
   | (with_reducible exact ih8 _ _ _ _ _ _ _ _ _ _ _ _ _ _)
   | (with_reducible exact ih9 _ _ _ _ _ _ _ _ _ _ _ _ _ _ _)
   | (with_reducible exact ih10 _ _ _ _ _ _ _ _ _ _ _ _ _ _)
   | (with_reducible exact ih11 _ _ _ _)
   | (with_reducible exact ih12 _ _ _ _ _ _)
   | (with_reducible exact ih13 _ _ _ _ _ _ _)
   | (with_reducible exact ih14 _ _ _ _ _ _ _)
   | (with_reducible exact crc_Find.mono _ _ _)
   | (with_reducible exact crc_Sum.mono _ _)
   | (with_reducible exact LeO.refl _)
   | (with_reducible exact LeO.none _)
   | (with_reducible refine LeO.ite ?_ ?_)
   | (with_reducible refine LeO.bind ?_ (fun _ => ?_))
   | exact ih0 _ _ _ _ _ _
   | exact ih1 _ _ _ _ _ _ _ _ _ _ _ _
   | exact ih2 _ _ _ _ _ _ _ _ _ _ _ _ _ _
   | exact ih3 _ _ _ _ _ _ _ _ _ _ _ _ _ _ _
   | exact ih4 _ _ _ _ _ _ _ _ _ _ _ _ _ _
   | exact ih5 _ _ _ _ _ _ _ _ _ _ _ _ _ _
   | exact ih6 _ _ _ _ _ _ _ _ _ _ _ _ _ _ _
   | exact ih7 _ _ _ _ _ _ _ _ _ _ _ _ _ _
   | exact ih8 _ _ _ _ _ _ _ _ _ _ _ _ _ _
   | exact ih9 _ _ _ _ _ _ _ _ _ _ _ _ _ _ _
   | exact ih10 _ _ _ _ _ _ _ _ _ _ _ _ _ _
   | exact ih11 _ _ _ _
   | exact ih12 _ _ _ _ _ _
   | exact ih13 _ _ _ _ _ _ _
   | exact ih14 _ _ _ _ _ _ _
   | exact crc_Find.mono _ _ _
   | exact crc_Sum.mono _ _
   | exact LeO.none _
   | refine LeO.ite ?_ ?_
   | refine LeO.bind ?_ (fun _ => ?_)
  ·intro y0 y1 y2 y3 y4 y5
   unfold stillagelaw01_CrcTells.l2
   repeat' first
   | (with_reducible exact ih0 _ _ _ _ _ _)
   | (with_reducible exact ih1 _ _ _ _ _ _ _ _ _ _ _ _)
   | (with_reducible exact ih2 _ _ _ _ _ _ _ _ _ _ _ _ _ _)
   | (with_reducible exact ih3 _ _ _ _ _ _ _ _ _ _ _ _ _ _ _)
   | (with_reducible exact ih4 _ _ _ _ _ _ _ _ _ _ _ _ _ _)
   | (with_reducible exact ih5 _ _ _ _ _ _ _ _ _ _ _ _ _ _)
   | (with_reducible exact ih6 _ _ _ _ _ _ _ _ _ _ _ _ _ _ _)
   | (with_reducible exact ih7 _ _ _ _ _ _ _ _ _ _ _ _ _ _)
   | (with_reducible exact ih8 _ _ _ _ _ _ _ _ _ _ _ _ _ _)
   | (with_reducible exact ih9 _ _ _ _ _ _ _ _ _ _ _ _ _ _ _)
   | (with_reducible exact ih10 _ _ _ _ _ _ _ _ _ _ _ _ _ _)
   | (with_reducible exact ih11 _ _ _ _)
   | (with_reducible exact ih12 _ _ _ _ _ _)
   | (with_reducible exact ih13 _ _ _ _ _ _ _)
   | (with_reducible exact ih14 _ _ _ _ _ _ _)
   | (with_reducible exact crc_Find.mono _ _ _)
   | (with_reducible exact crc_Sum.mono _ _)
   | (with_reducible exact LeO.refl _)
   | (with_reducible exact LeO.none _)
   | (with_reducible refine LeO.ite ?_ ?_)
   | (with_reducible refine LeO.bind ?_ (fun _ => ?_))
   | exact ih0 _ _ _ _ _ _
   | exact ih1 _ _ _ _ _ _ _ _ _ _ _ _
   | exact ih2 _ _ _ _ _ _ _ _ _ _ _ _ _ _
   | exact ih3 _ _ _ _ _ _ _ _ _ _ _ _ _ _ _
   | exact ih4 _ _ _ _ _ _ _ _ _ _ _ _ _ _
   | exact ih5 _ _ _ _ _ _ _ _ _ _ _ _ _ _
   | exact ih6 _ _ _ _ _ _ _ _ _ _ _ _ _ _ _
   | exact ih7 _ _ _ _ _ _ _ _ _ _ _ _ _ _
   | exact ih8 _ _ _ _ _ _ _ _ _ _ _ _ _ _
   | exact ih9 _ _ _ _ _ _ _ _ _ _ _ _ _ _ _
   | exact ih10 _ _ _ _ _ _ _ _ _ _ _ _ _ _
   | exact ih11 _ _ _ _
   | exact ih12 _ _ _ _ _ _
   | exact ih13 _ _ _ _ _ _ _
   | exact ih14 _ _ _ _ _ _ _
   | exact crc_Find.mono _ _ _
   | exact crc_Sum.mono _ _
   | exact LeO.none _
   | refine LeO.ite ?_ ?_
   | refine LeO.bind ?_ (fun _ => ?_)
  ·intro y0 y1 y2 y3 y4 y5 y6
   unfold stillagelaw01_CrcTells.l3
   repeat' first
   | (with_reducible exact ih0 _ _ _ _ _ _)
   | (with_reducible exact ih1 _ _ _ _ _ _ _ _ _ _ _ _)
   | (with_reducible exact ih2 _ _ _ _ _ _ _ _ _ _ _ _ _ _)
   | (with_reducible exact ih3 _ _ _ _ _ _ _ _ _ _ _ _ _ _ _)
   | (with_reducible exact ih4 _ _ _ _ _ _ _ _ _ _ _ _ _ _)
   | (with_reducible exact ih5 _ _ _ _ _ _ _ _ _ _ _ _ _ _)
   | (with_reducible exact ih6 _ _ _ _ _ _ _ _ _ _ _ _ _ _ _)
   | (with_reducible exact ih7 _ _ _ _ _ _ _ _ _ _ _ _ _ _)
   | (with_reducible exact ih8 _ _ _ _ _ _ _ _ _ _ _ _ _ _)
   | (with_reducible exact ih9 _ _ _ _ _ _ _ _ _ _ _ _ _ _ _)
   | (with_reducible exact ih10 _ _ _ _ _ _ _ _ _ _ _ _ _ _)
   | (with_reducible exact ih11 _ _ _ _)
   | (with_reducible exact ih12 _ _ _ _ _ _)
   | (with_reducible exact ih13 _ _ _ _ _ _ _)
   | (with_reducible exact ih14 _ _ _ _ _ _ _)
   | (with_reducible exact crc_Find.mono _ _ _)
   | (with_reducible exact crc_Sum.mono _ _)
   | (with_reducible exact LeO.refl _)
   | (with_reducible exact LeO.none _)
   | (with_reducible refine LeO.ite ?_ ?_)
   | (with_reducible refine LeO.bind ?_ (fun _ => ?_))
   | exact ih0 _ _ _ _ _ _
   | exact ih1 _ _ _ _ _ _ _ _ _ _ _ _
   | exact ih2 _ _ _ _ _ _ _ _ _ _ _ _ _ _
   | exact ih3 _ _ _ _ _ _ _ _ _ _ _ _ _ _ _
   | exact ih4 _ _ _ _ _ _ _ _ _ _ _ _ _ _
   | exact ih5 _ _ _ _ _ _ _ _ _ _ _ _ _ _
   | exact ih6 _ _ _ _ _ _ _ _ _ _ _ _ _ _ _
   | exact ih7 _ _ _ _ _ _ _ _ _ _ _ _ _ _
   | exact ih8 _ _ _ _ _ _ _ _ _ _ _ _ _ _
   | exact ih9 _ _ _ _ _ _ _ _ _ _ _ _ _ _ _
   | exact ih10 _ _ _ _ _ _ _ _ _ _ _ _ _ _
   | exact ih11 _ _ _ _
   | exact ih12 _ _ _ _ _ _
   | exact ih13 _ _ _ _ _ _ _
   | exact ih14 _ _ _ _ _ _ _
   | exact crc_Find.mono _ _ _
   | exact crc_Sum.mono _ _
   | exact LeO.none _
   | refine LeO.ite ?_ ?_
   | refine LeO.bind ?_ (fun _ => ?_)
  ·intro y0 y1 y2 y3 y4 y5 y6
   unfold stillagelaw01_CrcTells.l1
   repeat' first
   | (with_reducible exact ih0 _ _ _ _ _ _)
   | (with_reducible exact ih1 _ _ _ _ _ _ _ _ _ _ _ _)
   | (with_reducible exact ih2 _ _ _ _ _ _ _ _ _ _ _ _ _ _)
   | (with_reducible exact ih3 _ _ _ _ _ _ _ _ _ _ _ _ _ _ _)
   | (with_reducible exact ih4 _ _ _ _ _ _ _ _ _ _ _ _ _ _)
   | (with_reducible exact ih5 _ _ _ _ _ _ _ _ _ _ _ _ _ _)
   | (with_reducible exact ih6 _ _ _ _ _ _ _ _ _ _ _ _ _ _ _)
   | (with_reducible exact ih7 _ _ _ _ _ _ _ _ _ _ _ _ _ _)
   | (with_reducible exact ih8 _ _ _ _ _ _ _ _ _ _ _ _ _ _)
   | (with_reducible exact ih9 _ _ _ _ _ _ _ _ _ _ _ _ _ _ _)
   | (with_reducible exact ih10 _ _ _ _ _ _ _ _ _ _ _ _ _ _)
   | (with_reducible exact ih11 _ _ _ _)
   | (with_reducible exact ih12 _ _ _ _ _ _)
   | (with_reducible exact ih13 _ _ _ _ _ _ _)
   | (with_reducible exact ih14 _ _ _ _ _ _ _)
   | (with_reducible exact crc_Find.mono _ _ _)
   | (with_reducible exact crc_Sum.mono _ _)
   | (with_reducible exact LeO.refl _)
   | (with_reducible exact LeO.none _)
   | (with_reducible refine LeO.ite ?_ ?_)
   | (with_reducible refine LeO.bind ?_ (fun _ => ?_))
   | exact ih0 _ _ _ _ _ _
   | exact ih1 _ _ _ _ _ _ _ _ _ _ _ _
   | exact ih2 _ _ _ _ _ _ _ _ _ _ _ _ _ _
   | exact ih3 _ _ _ _ _ _ _ _ _ _ _ _ _ _ _
   | exact ih4 _ _ _ _ _ _ _ _ _ _ _ _ _ _
   | exact ih5 _ _ _ _ _ _ _ _ _ _ _ _ _ _
   | exact ih6 _ _ _ _ _ _ _ _ _ _ _ _ _ _ _
   | exact ih7 _ _ _ _ _ _ _ _ _ _ _ _ _ _
   | exact ih8 _ _ _ _ _ _ _ _ _ _ _ _ _ _
   | exact ih9 _ _ _ _ _ _ _ _ _ _ _ _ _ _ _
   | exact ih10 _ _ _ _ _ _ _ _ _ _ _ _ _ _
   | exact ih11 _ _ _ _
   | exact ih12 _ _ _ _ _ _
   | exact ih13 _ _ _ _ _ _ _
   | exact ih14 _ _ _ _ _ _ _
   | exact crc_Find.mono _ _ _
   | exact crc_Sum.mono _ _
   | exact LeO.none _
   | refine LeO.ite ?_ ?_
   | refine LeO.bind ?_ (fun _ => ?_)
theorem stillagelaw01_CrcTells.mono : ∀ a0 a1 a2 a3 a4 k, LeO (stillagelaw01_CrcTells.f k a0 a1 a2 a3 a4) (stillagelaw01_CrcTells.f (k + 1) a0 a1 a2 a3 a4) := by
 intro a0 a1 a2 a3 a4 k
 obtain ⟨ih0, ih1, ih2, ih3, ih4, ih5, ih6, ih7, ih8, ih9, ih10, ih11, ih12, ih13, ih14⟩ := stillagelaw01_CrcTells.mono_l k
 unfold stillagelaw01_CrcTells.f
 repeat' first
   | (with_reducible exact ih0 _ _ _ _ _ _)
   | (with_reducible exact ih1 _ _ _ _ _ _ _ _ _ _ _ _)
   | (with_reducible exact ih2 _ _ _ _ _ _ _ _ _ _ _ _ _ _)
   | (with_reducible exact ih3 _ _ _ _ _ _ _ _ _ _ _ _ _ _ _)
   | (with_reducible exact ih4 _ _ _ _ _ _ _ _ _ _ _ _ _ _)
   | (with_reducible exact ih5 _ _ _ _ _ _ _ _ _ _ _ _ _ _)
   | (with_reducible exact ih6 _ _ _ _ _ _ _ _ _ _ _ _ _ _ _)
   | (with_reducible exact ih7 _ _ _ _ _ _ _ _ _ _ _ _ _ _)
   | (with_reducible exact ih8 _ _ _ _ _ _ _ _ _ _ _ _ _ _)
   | (with_reducible exact ih9 _ _ _ _ _ _ _ _ _ _ _ _ _ _ _)
   | (with_reducible exact ih10 _ _ _ _ _ _ _ _ _ _ _ _ _ _)
   | (with_reducible exact ih11 _ _ _ _)
   | (with_reducible exact ih12 _ _ _ _ _ _)
   | (with_reducible exact ih13 _ _ _ _ _ _ _)
   | (with_reducible exact ih14 _ _ _ _ _ _ _)
   | (with_reducible exact crc_Find.mono _ _ _)
   | (with_reducible exact crc_Sum.mono _ _)
   | (with_reducible exact LeO.refl _)
   | (with_reducible exact LeO.none _)
   | (with_reducible refine LeO.ite ?_ ?_)
   | (with_reducible refine LeO.bind ?_ (fun _ => ?_))
   | exact ih0 _ _ _ _ _ _
   | exact ih1 _ _ _ _ _ _ _ _ _ _ _ _
   | exact ih2 _ _ _ _ _ _ _ _ _ _ _ _ _ _
   | exact ih3 _ _ _ _ _ _ _ _ _ _ _ _ _ _ _
   | exact ih4 _ _ _ _ _ _ _ _ _ _ _ _ _ _
   | exact ih5 _ _ _ _ _ _ _ _ _ _ _ _ _ _
   | exact ih6 _ _ _ _ _ _ _ _ _ _ _ _ _ _ _
   | exact ih7 _ _ _ _ _ _ _ _ _ _ _ _ _ _
   | exact ih8 _ _ _ _ _ _ _ _ _ _ _ _ _ _
   | exact ih9 _ _ _ _ _ _ _ _ _ _ _ _ _ _ _
   | exact ih10 _ _ _ _ _ _ _ _ _ _ _ _ _ _
   | exact ih11 _ _ _ _
   | exact ih12 _ _ _ _ _ _
   | exact ih13 _ _ _ _ _ _ _
   | exact ih14 _ _ _ _ _ _ _
   | exact crc_Find.mono _ _ _
   | exact crc_Sum.mono _ _
   | exact LeO.none _
   | refine LeO.ite ?_ ?_
   | refine LeO.bind ?_ (fun _ => ?_)
def stillagelaw01_CrcTells.T11 : Bool × List (List Nat × List Nat) := (true, [([], []), ([], []), ([1], [1]), ([2], [2]), ([3], [3]), ([0, 4], [0, 4]), ([5], [5]), ([], []), ([7], [7]), ([8], [8]), ([9], [9]), ([10], [10]), ([6, 11], [6, 11]), ([0, 4, 0, 1, 2, 3, 4, 5, 6, 7, 8, 9, 10, 11, 12], [0, 4]), ([13, 12, 0, 1, 2, 3, 4, 5, 6, 7, 8, 9, 10, 11, 12], [12, 13])])
def stillagelaw01_CrcTells.B11 : List Nat := [0, 0, 2, 6, 14, 31, 63, 0, 128, 384, 896, 1920, 4095, 8191, 16383]
theorem stillagelaw01_CrcTells.tab11 : rtab .any (opsOf Try.f10 11) = stillagelaw01_CrcTells.T11 := by kernel_rfl
theorem stillagelaw01_CrcTells.bits11 : waitsOk stillagelaw01_CrcTells.T11.2 stillagelaw01_CrcTells.B11 = true := by kernel_rfl
def stillagelaw01_CrcTells.T28 : Bool × List (List Nat × List Nat) := (true, [([], []), ([], []), ([1], [1]), ([0, 2], [0, 2]), ([3], [3]), ([], []), ([5], [5]), ([6], [6]), ([4, 7], [4, 7]), ([0, 2, 0, 1, 2, 3, 4, 5, 6, 7, 8], [0, 2]), ([9, 8, 0, 1, 2, 3, 4, 5, 6, 7, 8], [8, 9])])
def stillagelaw01_CrcTells.B28 : List Nat := [0, 0, 2, 7, 15, 0, 32, 96, 255, 511, 1023]
theorem stillagelaw01_CrcTells.tab28 : rtab .any (opsOf Try.f10 28) = stillagelaw01_CrcTells.T28 := by kernel_rfl
theorem stillagelaw01_CrcTells.bits28 : waitsOk stillagelaw01_CrcTells.T28.2 stillagelaw01_CrcTells.B28 = true := by kernel_rfl
def stillagelaw01_CrcTells.T32 : Bool × List (List Nat × List Nat) := (true, [([], []), ([], []), ([0, 1], [0, 1]), ([2], [2]), ([], []), ([], []), ([4, 5], [4, 5]), ([6], [6]), ([3, 7], [3, 7]), ([8, 0, 1, 2, 3, 4, 5, 6, 7, 8], [8])])
def stillagelaw01_CrcTells.B32 : List Nat := [0, 0, 3, 7, 0, 0, 48, 112, 255, 511]
theorem stillagelaw01_CrcTells.tab32 : rtab .any (opsOf Try.f10 32) = stillagelaw01_CrcTells.T32 := by kernel_rfl
theorem stillagelaw01_CrcTells.bits32 : waitsOk stillagelaw01_CrcTells.T32.2 stillagelaw01_CrcTells.B32 = true := by kernel_rfl
set_option maxHeartbeats 8000000 in
set_option maxRecDepth 100000 in
theorem stillagelaw01_CrcTells.calls (k : Nat) (A0 : Option Addr) (c0 : Nat) (l0 : List Int) (a1_0 : Int) (a1_1 : Int) (a1_2 : Int) (A2 : Option Addr) (c2 : Nat) (l2 : List Int) (r : Bool) (w : World) (hr0 : Kd.C (Kd.int .u8) w A0 l0.length l0) (hc0 : l0.length ≤ c0) (hr2 : Kd.C (Kd.int .i64) w A2 l2.length l2) (hc2 : l2.length ≤ c2) (h : stillagelaw01_CrcTells.f k l0 a1_0 a1_1 a1_2 l2 = some r) :
  Calls Try.prog 10 #[.slice A0 l0.length c0, .agg #[.int .i64 a1_0, .int .i64 a1_1, .int .i64 a1_2], .slice A2 l2.length c2] w fun e w' => e = .returned (.bool r) ∧ Below w.heap.size w w' := by
 have hu44 := Try.underlying44
 have HR0 := Aside0.mk hr0
 have HC0 := Aside0.mk hc0
 clear hr0 hc0
 have HR2 := Aside0.mk hr2
 have HC2 := Aside0.mk hc2
 clear hr2 hc2
 have HB := Aside0.mk (Below.refl w.heap.size w)
 have H : ((stillagelaw01_awake.f).bind fun t111 => (if t111 = true then (if (l0.length : Int) = 0 then (stillagelaw01_CrcTells.j0 k l0 l2 true a1_0 a1_1 a1_2) else (stillagelaw01_CrcTells.j0 k l0 l2 (decide ((l0.length : Int) > 4000)) a1_0 a1_1 a1_2)) else (stillagelaw01_CrcTells.j0 k l0 l2 true a1_0 a1_1 a1_2))) = some r := h
 clear h
 have HC4 := Aside0.mk H
 clear H
 go_enter Try.func10, Try.ntmps10
 go_upto_region 1 with (first | ((with_reducible refine gate_dst (N := 4) rfl ?_); (try (refine gate_guard (by rfl) ?_; dsimp only)); refine box_event ?hg (N := 4) ?hd (cs := #[.int .i64 a1_0, .int .i64 a1_1, .int .i64 a1_2]) (t := 44) ?hr ?_; (case hd => rfl); (case hg => rfl); (case hr => first | (go_simp; done) | (go_simp; rfl)); intro gb110 hg w5 hbox hb; have n0_ := Aside0.mk (below_step (by repeat (first | (with_reducible first | exact HB.out | apply below_alloc | apply pw_below_drewN | apply below_drew1) | exact HB.out)) hb); have n1_ := Aside0.mk (hbox); have n2_ := Aside0.mk ((by rw [hg]; exact (below_size (by repeat (first | (with_reducible first | exact HB.out | apply below_alloc | apply pw_below_drewN | apply below_drew1) | exact HB.out))) : w.heap.size ≤ gb110)); have n3_ := Aside0.mk ((by rw [hg]; exact (below_size (by repeat (first | (with_reducible first | exact HB.out | apply below_alloc | apply pw_below_drewN | apply below_drew1) | exact HB.out))) : w.heap.size ≤ gb110)); clear HB; have HB := n0_; have BK110 := n1_; have GW110 := n2_; have GE110 := n3_; clear n0_ n1_ n2_ n3_; clear hb hbox hg))
 (try simp only [Act.put, List.setIfInBounds_toArray, List.set_cons_zero, List.set_cons_succ])
 go_cut [32] (fun v32 wc => ∃ (kq : Nat) (x32_3 : Bool), v32 = .bool x32_3 ∧ Aside0 (stillagelaw01_CrcTells.j0 kq l0 l2 x32_3 a1_0 a1_1 a1_2 = some r) ∧ Aside0 (kq ≤ k) ∧ Aside0 (wc.heap[gb110]? = some (.cells #[.int .i64 a1_0, .int .i64 a1_1, .int .i64 a1_2] 44 (0, 0))) ∧ Aside0 (Below w.heap.size w wc))
 case first =>
  have H := HC4.out
  clear HC4
  replace H := Option.bind_eq_some_iff.mp H
  obtain ⟨t111, A60, H⟩ := H
  replace H : (if t111 = true then (if (l0.length : Int) = 0 then (stillagelaw01_CrcTells.j0 k l0 l2 true a1_0 a1_1 a1_2) else (stillagelaw01_CrcTells.j0 k l0 l2 (decide ((l0.length : Int) > 4000)) a1_0 a1_1 a1_2)) else (stillagelaw01_CrcTells.j0 k l0 l2 true a1_0 a1_1 a1_2)) = some r := H
  have A6 := Aside0.mk A60
  clear A60
  by_cases c7 : t111 = true
  rotate_left
  ·replace c7 := Bool.eq_false_iff.mpr c7
   subst c7
   have H1 : (stillagelaw01_CrcTells.j0 k l0 l2 true a1_0 a1_1 a1_2) = some r := by rw [if_neg (show ¬ (false = true) by decide)] at H; exact H
   clear H
   have H := H1
   clear H1
   have H' := Aside0.mk H
   clear H
   go_wp2_with (first | ((with_reducible refine gate_callee (f := 11) rfl ?_); refine goesL_ (some 21) rfl rfl Try.func11 (by kernel_rfl) rfl #[] rfl (by (try simp only [List.map_toArray, List.map_cons, List.map_nil]); first | done | rfl | (simp only [List.length_drop, List.length_take]; rfl)) ?_; (with_reducible refine (stillagelaw01_awake.calls  false _ A6.out).mono ?_); rintro e w11 ⟨rfl, hb⟩; refine ⟨_, rfl, ?_⟩; have n0_ := Aside0.mk (blk_below (g := gb110) (o := .cells #[.int .i64 a1_0, .int .i64 a1_1, .int .i64 a1_2] 44 (0, 0)) (by (with_reducible repeat (first | refine blk_drewN ?_ _ | refine blk_drew ?_ | refine blk_alloc ?_ _)); exact BK110.out) hb); have n1_ := Aside0.mk (below_step (by repeat (first | (with_reducible first | exact HB.out | apply below_alloc | apply pw_below_drewN | apply below_drew1 | refine below_set ?_ GE110.out) | exact HB.out)) hb); clear BK110; clear HB; have BK110 := n0_; have HB := n1_; clear n0_ n1_; (try clear hb); (try clear hb2); (try clear hk); (try clear hi)))
   go_meet
   case rel => exact ⟨_, (true), (by first | rfl | (simp; done) | (simp [*]; done)), H', ⟨by first | omega | exact Nat.le_refl _⟩, ⟨by (with_reducible repeat (first | refine blk_drewN ?_ _ | refine blk_drew ?_ | refine blk_alloc ?_ _)); exact BK110.out⟩, ⟨by repeat (first | (with_reducible first | exact HB.out | apply below_alloc | apply pw_below_drewN | apply below_drew1 | refine below_set ?_ GE110.out) | exact HB.out)⟩⟩
  subst c7
  have H1 : (if (l0.length : Int) = 0 then (stillagelaw01_CrcTells.j0 k l0 l2 true a1_0 a1_1 a1_2) else (stillagelaw01_CrcTells.j0 k l0 l2 (decide ((l0.length : Int) > 4000)) a1_0 a1_1 a1_2)) = some r := by rw [if_pos rfl] at H; exact H
  clear H
  have H := H1
  clear H1
  by_cases c8 : (l0.length : Int) = 0
  ·rw [if_pos c8] at H
   have c8b0 : ((l0.length : Int) == 0) = true := beq_iff_eq.mpr c8
   have c8b1 : ((l0.length : Int) != 0) = false := bne_eq_false_iff_eq.mpr c8
   clear c8
   (first | rw [c8b0] | (simp only [i64_w, i32_w]; rw [c8b0]) | skip)
   have H' := Aside0.mk H
   clear H
   go_wp2_with (first | ((with_reducible refine gate_callee (f := 11) rfl ?_); refine goesL_ (some 21) rfl rfl Try.func11 (by kernel_rfl) rfl #[] rfl (by (try simp only [List.map_toArray, List.map_cons, List.map_nil]); first | done | rfl | (simp only [List.length_drop, List.length_take]; rfl)) ?_; (with_reducible refine (stillagelaw01_awake.calls  true _ A6.out).mono ?_); rintro e w9 ⟨rfl, hb⟩; refine ⟨_, rfl, ?_⟩; have n0_ := Aside0.mk (blk_below (g := gb110) (o := .cells #[.int .i64 a1_0, .int .i64 a1_1, .int .i64 a1_2] 44 (0, 0)) (by (with_reducible repeat (first | refine blk_drewN ?_ _ | refine blk_drew ?_ | refine blk_alloc ?_ _)); exact BK110.out) hb); have n1_ := Aside0.mk (below_step (by repeat (first | (with_reducible first | exact HB.out | apply below_alloc | apply pw_below_drewN | apply below_drew1 | refine below_set ?_ GE110.out) | exact HB.out)) hb); clear BK110; clear HB; have BK110 := n0_; have HB := n1_; clear n0_ n1_; (try clear hb); (try clear hb2); (try clear hk); (try clear hi)))
   go_meet
   case rel => exact ⟨_, (true), (by first | rfl | (simp; done) | (simp [*]; done)), H', ⟨by first | omega | exact Nat.le_refl _⟩, ⟨by (with_reducible repeat (first | refine blk_drewN ?_ _ | refine blk_drew ?_ | refine blk_alloc ?_ _)); exact BK110.out⟩, ⟨by repeat (first | (with_reducible first | exact HB.out | apply below_alloc | apply pw_below_drewN | apply below_drew1 | refine below_set ?_ GE110.out) | exact HB.out)⟩⟩
  rw [if_neg c8] at H
  have c8b0 : ((l0.length : Int) == 0) = false := beq_eq_false_iff_ne.mpr c8
  have c8b1 : ((l0.length : Int) != 0) = true := bne_iff_ne.mpr c8
  have c8b2 : ¬ (l0 = []) := fun h_ => c8 (by rw [h_]; rfl)
  (first | rw [c8b0] | (simp only [i64_w, i32_w]; rw [c8b0]) | skip)
  have H' := Aside0.mk H
  clear H
  go_wp2_with (first | ((with_reducible refine gate_callee (f := 11) rfl ?_); refine goesL_ (some 21) rfl rfl Try.func11 (by kernel_rfl) rfl #[] rfl (by (try simp only [List.map_toArray, List.map_cons, List.map_nil]); first | done | rfl | (simp only [List.length_drop, List.length_take]; rfl)) ?_; (with_reducible refine (stillagelaw01_awake.calls  true _ A6.out).mono ?_); rintro e w10 ⟨rfl, hb⟩; refine ⟨_, rfl, ?_⟩; have n0_ := Aside0.mk (blk_below (g := gb110) (o := .cells #[.int .i64 a1_0, .int .i64 a1_1, .int .i64 a1_2] 44 (0, 0)) (by (with_reducible repeat (first | refine blk_drewN ?_ _ | refine blk_drew ?_ | refine blk_alloc ?_ _)); exact BK110.out) hb); have n1_ := Aside0.mk (below_step (by repeat (first | (with_reducible first | exact HB.out | apply below_alloc | apply pw_below_drewN | apply below_drew1 | refine below_set ?_ GE110.out) | exact HB.out)) hb); clear BK110; clear HB; have BK110 := n0_; have HB := n1_; clear n0_ n1_; (try clear hb); (try clear hb2); (try clear hk); (try clear hi)))
  go_meet
  case rel => exact ⟨_, (decide ((l0.length : Int) > 4000)), (by first | rfl | (simp; done) | (simp [*]; done)), H', ⟨by first | omega | exact Nat.le_refl _⟩, ⟨by (with_reducible repeat (first | refine blk_drewN ?_ _ | refine blk_drew ?_ | refine blk_alloc ?_ _)); exact BK110.out⟩, ⟨by repeat (first | (with_reducible first | exact HB.out | apply below_alloc | apply pw_below_drewN | apply below_drew1 | refine below_set ?_ GE110.out) | exact HB.out)⟩⟩
 case rest =>
  clear HC4
  obtain ⟨kq, x32_3, rfl, HA, HJ3, BK110, HB⟩ := hcut
  cases kq with
  | zero => exact absurd HA.out (by simp [stillagelaw01_CrcTells.j0])
  | succ kj3 =>
   have H := HA.out
   clear HA
   simp only [stillagelaw01_CrcTells.j0] at H
   by_cases c12 : x32_3 = true
   ·subst c12
    have H1 : ((stillagelaw01_awake.f).bind fun t112 => (some t112)) = some r := by rw [if_pos rfl] at H; exact H
    clear H
    have H := H1
    clear H1
    replace H := Option.bind_eq_some_iff.mp H
    obtain ⟨t112, A130, H⟩ := H
    replace H : (some t112) = some r := H
    have A13 := Aside0.mk A130
    clear A130
    obtain rfl := Option.some.inj H
    go_wp2_with (first | ((with_reducible refine gate_callee (f := 11) rfl ?_); refine goesL_ (some 33) rfl rfl Try.func11 (by kernel_rfl) rfl #[] rfl (by (try simp only [List.map_toArray, List.map_cons, List.map_nil]); first | done | rfl | (simp only [List.length_drop, List.length_take]; rfl)) ?_; (with_reducible refine (stillagelaw01_awake.calls  t112 _ A13.out).mono ?_); rintro e w14 ⟨rfl, hb⟩; refine ⟨_, rfl, ?_⟩; have n0_ := Aside0.mk (blk_below (g := gb110) (o := .cells #[.int .i64 a1_0, .int .i64 a1_1, .int .i64 a1_2] 44 (0, 0)) (by (with_reducible repeat (first | refine blk_drewN ?_ _ | refine blk_drew ?_ | refine blk_alloc ?_ _)); exact BK110.out) hb); have n1_ := Aside0.mk (below_step (by repeat (first | (with_reducible first | exact HB.out | apply below_alloc | apply pw_below_drewN | apply below_drew1 | refine below_set ?_ GE110.out) | exact HB.out)) hb); clear BK110; clear HB; have BK110 := n0_; have HB := n1_; clear n0_ n1_; (try clear hb); (try clear hb2); (try clear hk); (try clear hi)))
    go_ret
    exact ⟨by first | rfl | (simp [errW_none, errW_some] <;> rfl) | (simp [*, errW_none, errW_some] <;> rfl), by repeat (first | (with_reducible first | exact HB.out | apply below_alloc | apply pw_below_drewN | apply below_drew1 | refine below_set ?_ GE110.out) | exact HB.out)⟩
   replace c12 := Bool.eq_false_iff.mpr c12
   subst c12
   have H1 : ((crc_Sum.f kj3 l0).bind fun t113 => ((some (([] : List Int) : List Int)).bind fun y114 => (if y114.length + l0.length < 140737488355328 then (stillagelaw01_CrcTells.l0 kj3 l0 l2 (IntKind.u64.wrap (wrap64 (8 * (l0.length : Int)))) t113 (y114 ++ l0) 0 a1_0 a1_1 a1_2 0 0 0) else (none)))) = some r := by rw [if_neg (show ¬ (false = true) by decide)] at H; exact H
   clear H
   have H := H1
   clear H1
   replace H := Option.bind_eq_some_iff.mp H
   obtain ⟨t113, A150, H⟩ := H
   replace H : ((some (([] : List Int) : List Int)).bind fun y114 => (if y114.length + l0.length < 140737488355328 then (stillagelaw01_CrcTells.l0 kj3 l0 l2 (IntKind.u64.wrap (wrap64 (8 * (l0.length : Int)))) t113 (y114 ++ l0) 0 a1_0 a1_1 a1_2 0 0 0) else (none))) = some r := H
   have A15 := Aside0.mk A150
   clear A150
   obtain ⟨y114, hy114⟩ : ∃ y_ : List Int, y_ = (([] : List Int)) := ⟨_, rfl⟩
   replace H : (if y114.length + l0.length < 140737488355328 then (stillagelaw01_CrcTells.l0 kj3 l0 l2 (IntKind.u64.wrap (wrap64 (8 * (l0.length : Int)))) t113 (y114 ++ l0) 0 a1_0 a1_1 a1_2 0 0 0) else (none)) = some r := by first | (rw [hy114]; with_reducible exact H) | (have H2_ := (Option.bind_some _ _).symm.trans H; rw [hy114]; with_reducible exact H2_) | (have H2_ := (Option.bind_some _ _).symm.trans H; with_reducible exact H2_) | with_reducible exact H | (rw [hy114]; exact H) | exact H
   have Ny114 := Aside0.mk hy114
   clear hy114
   by_cases c16 : y114.length + l0.length < 140737488355328
   rotate_left
   ·rw [if_neg c16] at H
    exact absurd H (by simp)

   rw [if_pos c16] at H
   have LMc16 := Aside0.mk c16
   clear c16
   obtain ⟨y117, hy117⟩ : ∃ y_ : List Int, y_ = (y114 ++ l0) := ⟨_, rfl⟩
   replace H : (stillagelaw01_CrcTells.l0 kj3 l0 l2 (IntKind.u64.wrap (wrap64 (8 * (l0.length : Int)))) t113 y117 0 a1_0 a1_1 a1_2 0 0 0) = some r := by first | (rw [hy117]; with_reducible exact H) | (have H2_ := (Option.bind_some _ _).symm.trans H; rw [hy117]; with_reducible exact H2_) | (have H2_ := (Option.bind_some _ _).symm.trans H; with_reducible exact H2_) | with_reducible exact H | (rw [hy117]; exact H) | exact H
   have Ny117 := Aside0.mk hy117
   clear hy117
   have H' := Aside0.mk H
   clear H
   go_wp2_with (first | ((with_reducible refine gate_callee (f := 14) rfl ?_); refine goesL_ (some 39) rfl rfl Try.func14 (by kernel_rfl) rfl #[.slice A0 l0.length c0] rfl (by (try simp only [List.map_toArray, List.map_cons, List.map_nil]); first | done | rfl | (simp only [List.length_drop, List.length_take]; rfl)) ?_; (with_reducible refine (crc_Sum.calls kj3 _ _ l0 t113 _ ?side1 ?side2 A15.out).mono ?_); (case side1 => repeat (first | exact (Kd.C_below HR0.out HB.out) | (with_reducible refine Kd.C_alloc ?_ _) | (with_reducible refine Kd.C_drewN ?_ _) | (with_reducible refine Kd.C_drew ?_))); (case side2 => exact HC0.out); rintro e w' ⟨rfl, ⟨nd, rfl⟩⟩; refine ⟨_, rfl, ?_⟩) | ((with_reducible refine gate_dst (N := 40) rfl ?_); (try (refine gate_guard (by rfl) ?_; dsimp only)); refine Kd.R_lit (Kd.int .u8) _ 5 ?hg (N := 40) ?hd (xs := ([] : List Int)) (inner := []) (ok := fun _ => True) (okp := fun _ => True) ?hr ?hp (fun _ hk => hk) trivial (Below.refl _ _) (Nat.le_refl _) (by simp) ?_; (case hd => rfl); (case hg => rfl); (case hr => first | (go_simp; done) | (go_simp; rfl)); (case hp => exact (Reps.none _ _)); intro v115 w17 ho18 hb hg_ hnew_; clear hg_ hnew_; (first | rw [← Ny114.out] at ho18 | (simp only [Int.reduceToNat] at ho18; rw [← Ny114.out] at ho18)); have n0_ := Aside0.mk (Kd.R_lower ho18 (below_size (by repeat (first | (with_reducible first | exact HB.out | apply below_alloc | apply pw_below_drewN | apply below_drew1 | refine below_set ?_ GE110.out) | exact HB.out)))); have n1_ := Aside0.mk (blk_below (g := gb110) (o := .cells #[.int .i64 a1_0, .int .i64 a1_1, .int .i64 a1_2] 44 (0, 0)) (by (with_reducible repeat (first | refine blk_drewN ?_ _ | refine blk_drew ?_ | refine blk_alloc ?_ _)); exact BK110.out) hb); have n2_ := Aside0.mk (below_step (by repeat (first | (with_reducible first | exact HB.out | apply below_alloc | apply pw_below_drewN | apply below_drew1 | refine below_set ?_ GE110.out) | exact HB.out)) hb); clear BK110; clear HB; have HO116 := n0_; have BK110 := n1_; have HB := n2_; clear n0_ n1_ n2_; clear hb ho18) | ((with_reducible refine gate_builtin (b := .append) (xs := #[.tmp 40, .tmp 41]) rfl ?_); (try (refine gate_guard (by rfl) ?_; dsimp only)); at_builtin; refine Kd.R_append_rows (Kd.int .u8) (w0 := w) w.heap.size rfl (.tmp 40) (.tmp 41) 26 5 (.int .u8 0) 1 rfl Try.underlying26 info5 rfl (by decide) (by omega) v115 y114 l0 _ _ _ (fun _ => True) (fun _ => False) rfl rfl ?aO ?aR (fun _ _ h => h) (fun _ h => h.elim) ?aF ?aB ?aS ?aL ?_; (case aR => repeat (first | exact (Kd.C_below HR0.out HB.out) | (with_reducible refine Kd.C_alloc ?_ _) | (with_reducible refine Kd.C_drewN ?_ _) | (with_reducible refine Kd.C_drew ?_))); (case aB => exact (by repeat (first | (with_reducible first | exact HB.out | apply below_alloc | apply pw_below_drewN | apply below_drew1 | refine below_set ?_ GE110.out) | exact HB.out))); (case aF => exact (fun _ _ => trivial)); (case aO => exact (by (with_reducible repeat (first | apply Kd.R_alloc | apply Kd.R_drewN | apply Kd.R_drew)); exact HO116.out)); (case aS => exact (below_size (by repeat (first | (with_reducible first | exact HB.out | apply below_alloc | apply pw_below_drewN | apply below_drew1 | refine below_set ?_ GE110.out) | exact HB.out)))); (case aL => have := LMc16.out; omega); intro v118 w19 ho hb hg hat; rw [← Ny117.out] at ho; have n0_ := Aside0.mk (blk_grown (g := gb110) (o := .cells #[.int .i64 a1_0, .int .i64 a1_1, .int .i64 a1_2] 44 (0, 0)) (by (with_reducible repeat (first | refine blk_drewN ?_ _ | refine blk_drew ?_ | refine blk_alloc ?_ _)); exact BK110.out) hg (Kd.R_ne HO116.out BK110.out (by decide))); have n1_ := Aside0.mk (hb); have n2_ := Aside0.mk (ho); clear BK110; clear HB; clear HO116; have BK110 := n0_; have HB := n1_; have HO119 := n2_; clear n0_ n1_ n2_; clear ho hb hg hat) | ((with_reducible refine gate_dst (N := 10) rfl ?_); (try (refine gate_guard (by rfl) ?_; dsimp only)); refine box_event ?hg (N := 10) ?hd (cs := #[.int .i64 0, .int .i64 0, .int .i64 0]) (t := 44) ?hr ?_; (case hd => rfl); (case hg => rfl); (case hr => first | (go_simp; done) | (go_simp; rfl)); intro gb120 hg w20 hbox hb; have n0_ := Aside0.mk (Kd.R_below (by (with_reducible repeat (first | apply Kd.R_alloc | apply Kd.R_drewN | apply Kd.R_drew)); exact HO119.out) hb); have n1_ := Aside0.mk (blk_below (g := gb110) (o := .cells #[.int .i64 a1_0, .int .i64 a1_1, .int .i64 a1_2] 44 (0, 0)) (by (with_reducible repeat (first | refine blk_drewN ?_ _ | refine blk_drew ?_ | refine blk_alloc ?_ _)); exact BK110.out) hb); have n2_ := Aside0.mk (below_step (by repeat (first | (with_reducible first | exact HB.out | apply below_alloc | apply pw_below_drewN | apply below_drew1 | refine below_set ?_ GE110.out) | exact HB.out)) hb); have n3_ := Aside0.mk (hbox); have n4_ := Aside0.mk ((by rw [hg]; exact (below_size (by repeat (first | (with_reducible first | exact HB.out | apply below_alloc | apply pw_below_drewN | apply below_drew1 | refine below_set ?_ GE110.out) | exact HB.out))) : w.heap.size ≤ gb120)); have n5_ := Aside0.mk ((by rw [hg]; exact (below_size (by repeat (first | (with_reducible first | exact HB.out | apply below_alloc | apply pw_below_drewN | apply below_drew1 | refine below_set ?_ GE110.out) | exact HB.out))) : w.heap.size ≤ gb120)); have n6_ := Aside0.mk ((by rw [hg]; exact Nat.ne_of_lt (blk_lt (g := gb110) (o := .cells #[.int .i64 a1_0, .int .i64 a1_1, .int .i64 a1_2] 44 (0, 0)) (by (with_reducible repeat (first | refine blk_drewN ?_ _ | refine blk_drew ?_ | refine blk_alloc ?_ _)); exact BK110.out)) : gb110 ≠ gb120)); have n7_ := Aside0.mk ((by rw [hg]; exact Nat.ne_of_gt (blk_lt (g := gb110) (o := .cells #[.int .i64 a1_0, .int .i64 a1_1, .int .i64 a1_2] 44 (0, 0)) (by (with_reducible repeat (first | refine blk_drewN ?_ _ | refine blk_drew ?_ | refine blk_alloc ?_ _)); exact BK110.out)) : gb120 ≠ gb110)); clear HO119; clear BK110; clear HB; have HO119 := n0_; have BK110 := n1_; have HB := n2_; have BK120 := n3_; have GW120 := n4_; have GE120 := n5_; have NB110_120 := n6_; have NB120_110 := n7_; clear n0_ n1_ n2_ n3_ n4_ n5_ n6_ n7_; clear hb hbox hg))
   go_loopg [43] kj3 (fun kq v43 w' => ∃ (x9_2 : List Int) (x43_2 : Int) (x121000_2 : Int) (x121001_2 : Int) (x121002_2 : Int), v43 = .int .i64 x43_2 ∧ Aside0 (stillagelaw01_CrcTells.l0 kq l0 l2 (IntKind.u64.wrap (wrap64 (8 * (l0.length : Int)))) t113 x9_2 x43_2 a1_0 a1_1 a1_2 x121000_2 x121001_2 x121002_2 = some r) ∧ Aside0 (kq ≤ kj3) ∧ Aside0 (Kd.R (Kd.int .u8) 5 w' w.heap.size (fun _ => True) v118 x9_2) ∧ Aside0 (w'.heap[gb110]? = some (.cells #[.int .i64 a1_0, .int .i64 a1_1, .int .i64 a1_2] 44 (0, 0))) ∧ Aside0 (w'.heap[gb120]? = some (.cells #[.int .i64 x121000_2, .int .i64 x121001_2, .int .i64 x121002_2] 44 (0, 0))) ∧ Aside0 (Below w.heap.size w w'))
   case atStart => exact ⟨(y117), (0), (0), (0), (0), (by first | rfl | (simp; done) | (simp [*]; done)), H', ⟨Nat.le_refl _⟩, ⟨by (with_reducible repeat (first | apply Kd.R_alloc | apply Kd.R_drewN | apply Kd.R_drew)); exact HO119.out⟩, ⟨by (with_reducible repeat (first | refine blk_drewN ?_ _ | refine blk_drew ?_ | refine blk_alloc ?_ _)); exact BK110.out⟩, ⟨by (with_reducible repeat (first | refine blk_drewN ?_ _ | refine blk_drew ?_ | refine blk_alloc ?_ _)); exact BK120.out⟩, ⟨by repeat (first | (with_reducible first | exact HB.out | apply below_alloc | apply pw_below_drewN | apply below_drew1 | refine below_set ?_ GE110.out | refine below_set ?_ GE120.out) | exact HB.out)⟩⟩
   case round =>
    clear H'
    obtain ⟨x9_2, x43_2, x121000_2, x121001_2, x121002_2, rfl, HA, HK2, HO_9, BK110, BK120, HB⟩ := hrel
    cases gk with
    | zero => exact absurd HA.out (by simp [stillagelaw01_CrcTells.l0])
    | succ k2 =>
     have H := HA.out
     clear HA
     simp only [stillagelaw01_CrcTells.l0] at H
     by_cases c21 : x43_2 < 3
     rotate_left
     ·rw [if_neg c21] at H
      have c21b0 : decide (x43_2 < 3) = false := decide_eq_false c21
      clear c21
      obtain ⟨y136, hy136⟩ : ∃ y_ : List Int, y_ = (([] : List Int)) := ⟨_, rfl⟩
      replace H : (if y136.length + l0.length < 140737488355328 then (stillagelaw01_CrcTells.l1 k2 l0 l2 (IntKind.u64.wrap (wrap64 (8 * (l0.length : Int)))) t113 (y136 ++ l0) 0 0) else (none)) = some r := by first | (rw [hy136]; with_reducible exact H) | (have H2_ := (Option.bind_some _ _).symm.trans H; rw [hy136]; with_reducible exact H2_) | (have H2_ := (Option.bind_some _ _).symm.trans H; with_reducible exact H2_) | with_reducible exact H | (rw [hy136]; exact H) | exact H
      have Ny136 := Aside0.mk hy136
      clear hy136
      by_cases c150 : y136.length + l0.length < 140737488355328
      rotate_left
      ·rw [if_neg c150] at H
       exact absurd H (by simp)
      rw [if_pos c150] at H
      have LMc150 := Aside0.mk c150
      clear c150
      obtain ⟨y139, hy139⟩ : ∃ y_ : List Int, y_ = (y136 ++ l0) := ⟨_, rfl⟩
      replace H : (stillagelaw01_CrcTells.l1 k2 l0 l2 (IntKind.u64.wrap (wrap64 (8 * (l0.length : Int)))) t113 y139 0 0) = some r := by first | (rw [hy139]; with_reducible exact H) | (have H2_ := (Option.bind_some _ _).symm.trans H; rw [hy139]; with_reducible exact H2_) | (have H2_ := (Option.bind_some _ _).symm.trans H; with_reducible exact H2_) | with_reducible exact H | (rw [hy139]; exact H) | exact H
      have Ny139 := Aside0.mk hy139
      clear hy139
      have HC151 := Aside0.mk H
      clear H
      go_upto_block 2 with (first | ((with_reducible refine gate_dst (N := 124) rfl ?_); (try (refine gate_guard (by rfl) ?_; dsimp only)); refine Kd.R_lit (Kd.int .u8) _ 5 ?hg (N := 124) ?hd (xs := ([] : List Int)) (inner := []) (ok := fun _ => True) (okp := fun _ => True) ?hr ?hp (fun _ hk => hk) trivial (Below.refl _ _) (Nat.le_refl _) (by simp) ?_; (case hd => rfl); (case hg => rfl); (case hr => first | (go_simp; done) | (go_simp; rfl)); (case hp => exact (Reps.none _ _)); intro v137 w152 ho153 hb hg_ hnew_; clear hg_ hnew_; (first | rw [← Ny136.out] at ho153 | (simp only [Int.reduceToNat] at ho153; rw [← Ny136.out] at ho153)); have n0_ := Aside0.mk (Kd.R_elder' (by (with_reducible repeat (first | apply Kd.R_alloc | apply Kd.R_drewN | apply Kd.R_drew)); exact HO_9.out) (Kd.R_base ho153) hb); have n1_ := Aside0.mk (Kd.R_lower (Kd.R_new' ho153 (Kd.R_lt (by (with_reducible repeat (first | apply Kd.R_alloc | apply Kd.R_drewN | apply Kd.R_drew)); exact HO_9.out))) (below_size (by repeat (first | (with_reducible first | exact HB.out | apply below_alloc | apply pw_below_drewN | apply below_drew1 | refine below_set ?_ GE110.out | refine below_set ?_ GE120.out) | exact HB.out)))); have n2_ := Aside0.mk (blk_below (g := gb110) (o := .cells #[.int .i64 a1_0, .int .i64 a1_1, .int .i64 a1_2] 44 (0, 0)) (by (with_reducible repeat (first | refine blk_drewN ?_ _ | refine blk_drew ?_ | refine blk_alloc ?_ _)); exact BK110.out) hb); have n3_ := Aside0.mk (blk_below (g := gb120) (o := .cells #[.int .i64 x121000_2, .int .i64 x121001_2, .int .i64 x121002_2] 44 (0, 0)) (by (with_reducible repeat (first | refine blk_drewN ?_ _ | refine blk_drew ?_ | refine blk_alloc ?_ _)); exact BK120.out) hb); have n4_ := Aside0.mk (below_step (by repeat (first | (with_reducible first | exact HB.out | apply below_alloc | apply pw_below_drewN | apply below_drew1 | refine below_set ?_ GE110.out | refine below_set ?_ GE120.out) | exact HB.out)) hb); clear HO_9; clear BK110; clear BK120; clear HB; have HO_9 := n0_; have HO138 := n1_; have BK110 := n2_; have BK120 := n3_; have HB := n4_; clear n0_ n1_ n2_ n3_ n4_; clear hb ho153) | ((with_reducible refine gate_builtin (b := .append) (xs := #[.tmp 124, .tmp 125]) rfl ?_); (try (refine gate_guard (by rfl) ?_; dsimp only)); at_builtin; refine Kd.R_append_rows (Kd.int .u8) (w0 := w) w.heap.size rfl (.tmp 124) (.tmp 125) 26 5 (.int .u8 0) 1 rfl Try.underlying26 info5 rfl (by decide) (by omega) v137 y136 l0 _ _ _ (fun k_ => some k_ ≠ (v118 : Value).ownBlock) (fun _ => False) rfl rfl ?aO ?aR (fun _ _ h => h) (fun _ h => h.elim) ?aF ?aB ?aS ?aL ?_; (case aR => repeat (first | exact (Kd.C_below HR0.out HB.out) | (with_reducible refine Kd.C_alloc ?_ _) | (with_reducible refine Kd.C_drewN ?_ _) | (with_reducible refine Kd.C_drew ?_))); (case aB => exact (by repeat (first | (with_reducible first | exact HB.out | apply below_alloc | apply pw_below_drewN | apply below_drew1 | refine below_set ?_ GE110.out | refine below_set ?_ GE120.out) | exact HB.out))); (case aF => exact (fun k_ hk => Kd.fresh' (Kd.R_lt (by (with_reducible repeat (first | apply Kd.R_alloc | apply Kd.R_drewN | apply Kd.R_drew)); exact HO_9.out)) k_ hk)); (case aO => exact (by (with_reducible repeat (first | apply Kd.R_alloc | apply Kd.R_drewN | apply Kd.R_drew)); exact Kd.R_mono HO138.out (fun _ hk => hk.2))); (case aS => exact (below_size (by repeat (first | (with_reducible first | exact HB.out | apply below_alloc | apply pw_below_drewN | apply below_drew1 | refine below_set ?_ GE110.out | refine below_set ?_ GE120.out) | exact HB.out)))); (case aL => have := LMc150.out; omega); intro v140 w154 ho hb hg hat; rw [← Ny139.out] at ho; have n0_ := Aside0.mk (Kd.R_after (ok := (fun _ => True)) (by (with_reducible repeat (first | apply Kd.R_alloc | apply Kd.R_drewN | apply Kd.R_drew)); exact HO_9.out) hg hat); have n1_ := Aside0.mk (blk_grown (g := gb110) (o := .cells #[.int .i64 a1_0, .int .i64 a1_1, .int .i64 a1_2] 44 (0, 0)) (by (with_reducible repeat (first | refine blk_drewN ?_ _ | refine blk_drew ?_ | refine blk_alloc ?_ _)); exact BK110.out) hg (Kd.R_ne HO138.out BK110.out (by decide))); have n2_ := Aside0.mk (blk_grown (g := gb120) (o := .cells #[.int .i64 x121000_2, .int .i64 x121001_2, .int .i64 x121002_2] 44 (0, 0)) (by (with_reducible repeat (first | refine blk_drewN ?_ _ | refine blk_drew ?_ | refine blk_alloc ?_ _)); exact BK120.out) hg (Kd.R_ne HO138.out BK120.out (by decide))); have n3_ := Aside0.mk (hb); have n4_ := Aside0.mk (ho); clear HO_9; clear BK110; clear BK120; clear HB; clear HO138; have HO_9 := n0_; have BK110 := n1_; have BK120 := n2_; have HB := n3_; have HO141 := n4_; clear n0_ n1_ n2_ n3_ n4_; clear ho hb hg hat))
      (try simp only [Act.put, List.setIfInBounds_toArray, List.set_cons_zero, List.set_cons_succ])
      go_cut [] (fun wc => ∃ (kq : Nat) (x15_150 : List Int), Aside0 (stillagelaw01_CrcTells.j12 kq l0 t113 x15_150 0 = some r) ∧ Aside0 (kq ≤ k2) ∧ Aside0 (Kd.R (Kd.int .u8) 5 wc w.heap.size (fun _ => True) v140 x15_150) ∧ Aside0 (wc.heap[gb110]? = some (.cells #[.int .i64 a1_0, .int .i64 a1_1, .int .i64 a1_2] 44 (0, 0))) ∧ Aside0 (wc.heap[gb120]? = some (.cells #[.int .i64 x121000_2, .int .i64 x121001_2, .int .i64 x121002_2] 44 (0, 0))) ∧ Aside0 (Below w.heap.size w wc))
      case first =>
       have H := HC151.out
       clear HC151
       have H' := Aside0.mk H
       clear H
       go_wp2
       go_loopg [17] k2 (fun kq v17 w' => ∃ (x15_3 : List Int) (x17_3 : Int), v17 = .int .i64 x17_3 ∧ Aside0 (stillagelaw01_CrcTells.l1 kq l0 l2 (IntKind.u64.wrap (wrap64 (8 * (l0.length : Int)))) t113 x15_3 0 x17_3 = some r) ∧ Aside0 (kq ≤ k2) ∧ Aside0 (Kd.R (Kd.int .u8) 5 w' w.heap.size (fun _ => True) v140 x15_3) ∧ Aside0 (w'.heap[gb110]? = some (.cells #[.int .i64 a1_0, .int .i64 a1_1, .int .i64 a1_2] 44 (0, 0))) ∧ Aside0 (w'.heap[gb120]? = some (.cells #[.int .i64 x121000_2, .int .i64 x121001_2, .int .i64 x121002_2] 44 (0, 0))) ∧ Aside0 (Below w.heap.size w w'))
       case atStart => exact ⟨(y139), (0), (by first | rfl | (simp; done) | (simp [*]; done)), H', ⟨Nat.le_refl _⟩, ⟨by (with_reducible repeat (first | apply Kd.R_alloc | apply Kd.R_drewN | apply Kd.R_drew)); exact Kd.R_mono HO141.out (fun _ hk => trivial)⟩, ⟨by (with_reducible repeat (first | refine blk_drewN ?_ _ | refine blk_drew ?_ | refine blk_alloc ?_ _)); exact BK110.out⟩, ⟨by (with_reducible repeat (first | refine blk_drewN ?_ _ | refine blk_drew ?_ | refine blk_alloc ?_ _)); exact BK120.out⟩, ⟨by repeat (first | (with_reducible first | exact HB.out | apply below_alloc | apply pw_below_drewN | apply below_drew1 | refine below_set ?_ GE110.out | refine below_set ?_ GE120.out) | exact HB.out)⟩⟩
       case round =>
        clear H'
        obtain ⟨x15_3, x17_3, rfl, HA, HK3, HO_15, BK110, BK120, HB⟩ := hrel
        cases gk with
        | zero => exact absurd HA.out (by simp [stillagelaw01_CrcTells.l1])
        | succ k3 =>
         have H := HA.out
         clear HA
         simp only [stillagelaw01_CrcTells.l1] at H
         by_cases c155 : x17_3 < (l2.length : Int)
         rotate_left
         ·rw [if_neg c155] at H
          have c155b0 : decide (x17_3 < (l2.length : Int)) = false := decide_eq_false c155
          clear c155
          (first | rw [c155b0] | (simp only [i64_w, i32_w]; rw [c155b0]) | skip)
          have H' := Aside0.mk H
          clear H
          go_wp2
          go_meet
          case rel => exact ⟨_, (x15_3), H', ⟨by have := HJ3.out; have := HK2.out; have := HK3.out; first | omega | exact Nat.le_refl _⟩, ⟨by (with_reducible repeat (first | apply Kd.R_alloc | apply Kd.R_drewN | apply Kd.R_drew)); exact HO_15.out⟩, ⟨by (with_reducible repeat (first | refine blk_drewN ?_ _ | refine blk_drew ?_ | refine blk_alloc ?_ _)); exact BK110.out⟩, ⟨by (with_reducible repeat (first | refine blk_drewN ?_ _ | refine blk_drew ?_ | refine blk_alloc ?_ _)); exact BK120.out⟩, ⟨by repeat (first | (with_reducible first | exact HB.out | apply below_alloc | apply pw_below_drewN | apply below_drew1 | refine below_set ?_ GE110.out | refine below_set ?_ GE120.out) | exact HB.out)⟩⟩
         rw [if_pos c155] at H
         have c155b0 : decide (x17_3 < (l2.length : Int)) = true := decide_eq_true c155
         clear c155
         (first | rw [c155b0] | (simp only [i64_w, i32_w]; rw [c155b0]) | skip)
         by_cases c156 : x17_3 < 101
         rotate_left
         ·rw [if_neg c156] at H
          have c156b0 : decide (x17_3 < 101) = false := decide_eq_false c156
          clear c156
          have H' := Aside0.mk H
          clear H
          go_wp2
          go_meet
          case rel => exact ⟨_, (x15_3), H', ⟨by have := HJ3.out; have := HK2.out; have := HK3.out; first | omega | exact Nat.le_refl _⟩, ⟨by (with_reducible repeat (first | apply Kd.R_alloc | apply Kd.R_drewN | apply Kd.R_drew)); exact HO_15.out⟩, ⟨by (with_reducible repeat (first | refine blk_drewN ?_ _ | refine blk_drew ?_ | refine blk_alloc ?_ _)); exact BK110.out⟩, ⟨by (with_reducible repeat (first | refine blk_drewN ?_ _ | refine blk_drew ?_ | refine blk_alloc ?_ _)); exact BK120.out⟩, ⟨by repeat (first | (with_reducible first | exact HB.out | apply below_alloc | apply pw_below_drewN | apply below_drew1 | refine below_set ?_ GE110.out | refine below_set ?_ GE120.out) | exact HB.out)⟩⟩
         rw [if_pos c156] at H
         have c156b0 : decide (x17_3 < 101) = true := decide_eq_true c156
         clear c156
         by_cases c157 : 0 ≤ x17_3
         rotate_left
         ·rw [if_neg c157] at H
          exact absurd H (by simp)
         rw [if_pos c157] at H
         have c157b0 : decide (0 ≤ x17_3) = true := decide_eq_true c157
         clear c157
         by_cases c158 : (IntKind.u64.wrap (wrap64 (8 * (l0.length : Int)))) = 0
         ·rw [if_pos c158] at H
          exact absurd H (by simp)
         rw [if_neg c158] at H
         have c158b0 : ((IntKind.u64.wrap (wrap64 (8 * (l0.length : Int)))) == 0) = false := beq_eq_false_iff_ne.mpr c158
         have c158b1 : ((IntKind.u64.wrap (wrap64 (8 * (l0.length : Int)))) != 0) = true := bne_iff_ne.mpr c158
         obtain ⟨ji159, hji159⟩ : ∃ j_ : Int, (wrap64 (Int.tdiv (wrap64 (Int.tmod (IntKind.u64.wrap (rd l2 x17_3)) (IntKind.u64.wrap (wrap64 (8 * (l0.length : Int)))))) 8)) = j_ := ⟨_, rfl⟩
         replace H : (if 0 ≤ (ji159) then (if (ji159) < (x15_3.length : Int) then (if 0 ≤ (Int.tmod (wrap64 (Int.tmod (IntKind.u64.wrap (rd l2 x17_3)) (IntKind.u64.wrap (wrap64 (8 * (l0.length : Int)))))) 8) then (stillagelaw01_CrcTells.l1 k3 l0 l2 (IntKind.u64.wrap (wrap64 (8 * (l0.length : Int)))) t113 (x15_3.set ((ji159) : Int).toNat (Go.bits .xor .u8 (rd x15_3 (ji159)) (shr .u8 128 (Int.tmod (wrap64 (Int.tmod (IntKind.u64.wrap (rd l2 x17_3)) (IntKind.u64.wrap (wrap64 (8 * (l0.length : Int)))))) 8)))) 0 (wrap64 (x17_3 + 1))) else (none)) else (none)) else (none)) = some r := by first | (rw [hji159] at H; exact H) | (simp only [hji159] at H ⊢; exact H)
         have hji159w : (IntKind.i64.wrap (Int.tdiv (wrap64 (Int.tmod (IntKind.u64.wrap (rd l2 x17_3)) (IntKind.u64.wrap (wrap64 (8 * (l0.length : Int)))))) 8)) = ji159 := (i64_w _).trans hji159
         by_cases c160 : 0 ≤ (ji159)
         rotate_left
         ·rw [if_neg c160] at H
          exact absurd H (by simp)
         rw [if_pos c160] at H
         have c160b0 : decide (0 ≤ (ji159)) = true := decide_eq_true c160
         clear c160
         by_cases c161 : (ji159) < (x15_3.length : Int)
         rotate_left
         ·rw [if_neg c161] at H
          exact absurd H (by simp)
         rw [if_pos c161] at H
         have c161b0 : decide ((ji159) < (x15_3.length : Int)) = true := decide_eq_true c161
         clear c161
         obtain ⟨ji162, hji162⟩ : ∃ j_ : Int, (Int.tmod (wrap64 (Int.tmod (IntKind.u64.wrap (rd l2 x17_3)) (IntKind.u64.wrap (wrap64 (8 * (l0.length : Int)))))) 8) = j_ := ⟨_, rfl⟩
         replace H : (if 0 ≤ (ji162) then (stillagelaw01_CrcTells.l1 k3 l0 l2 (IntKind.u64.wrap (wrap64 (8 * (l0.length : Int)))) t113 (x15_3.set ((ji159) : Int).toNat (Go.bits .xor .u8 (rd x15_3 (ji159)) (shr .u8 128 (ji162)))) 0 (wrap64 (x17_3 + 1))) else (none)) = some r := by first | (rw [hji162] at H; exact H) | (simp only [hji162] at H ⊢; exact H)
         by_cases c163 : 0 ≤ (ji162)
         rotate_left
         ·rw [if_neg c163] at H
          exact absurd H (by simp)
         rw [if_pos c163] at H
         have c163b0 := eq_true c163
         have c163b1 : decide (0 ≤ (ji162)) = true := decide_eq_true c163
         clear c163
         obtain ⟨ji164, hji164⟩ : ∃ j_ : Int, (shr .u8 128 (ji162)) = j_ := ⟨_, rfl⟩
         replace H : (stillagelaw01_CrcTells.l1 k3 l0 l2 (IntKind.u64.wrap (wrap64 (8 * (l0.length : Int)))) t113 (x15_3.set ((ji159) : Int).toNat (Go.bits .xor .u8 (rd x15_3 (ji159)) (ji164))) 0 (wrap64 (x17_3 + 1))) = some r := by first | (rw [hji164] at H; exact H) | (simp only [hji164] at H ⊢; exact H)
         have hji164_ : (128 / 2 ^ min (ji162).toNat 8) = ji164 := hji164
         have hji164z : (ji162) ≤ 8 → (128 / 2 ^ (ji162).toNat) = ji164 := shr_small hji164
         obtain ⟨y144, hy144⟩ : ∃ y_ : List Int, y_ = (x15_3.set ((ji159) : Int).toNat (Go.bits .xor .u8 (rd x15_3 (ji159)) (ji164))) := ⟨_, rfl⟩
         replace H : (stillagelaw01_CrcTells.l1 k3 l0 l2 (IntKind.u64.wrap (wrap64 (8 * (l0.length : Int)))) t113 y144 0 (wrap64 (x17_3 + 1))) = some r := by first | (rw [hy144]; with_reducible exact H) | (have H2_ := (Option.bind_some _ _).symm.trans H; rw [hy144]; with_reducible exact H2_) | (have H2_ := (Option.bind_some _ _).symm.trans H; with_reducible exact H2_) | with_reducible exact H | (rw [hy144]; exact H) | exact H
         have Ny144 := Aside0.mk hy144
         clear hy144
         have H' := Aside0.mk H
         clear H
         have p142 : 0 ≤ (x17_3 : Int) := of_decide_eq_true (by first | (with_reducible assumption) | assumption)
         have q142 : x17_3 < (l2.length : Int) := of_decide_eq_true (by first | (with_reducible assumption) | assumption)
         obtain ⟨ad142, e142, hx142_0⟩ := Kd.at_int HR2.out x17_3 p142 q142
         cases e142
         replace hx142_0 := (HB.out.cell (World.block_lt_of_cell? w _ hx142_0)).trans hx142_0
         replace p142 := eq_true p142
         replace q142 := eq_true q142
         try go_wp2
         have n0_ := Aside0.mk (Kd.R_drew HO_15.out)
         have n1_ := Aside0.mk (blk_drew BK110.out)
         have n2_ := Aside0.mk (blk_drew BK120.out)
         have n3_ := Aside0.mk (below_drew1 HB.out)
         clear HO_15
         clear BK110
         clear BK120
         clear HB
         have HO_15 := n0_
         have BK110 := n1_
         have BK120 := n2_
         have HB := n3_
         clear n0_ n1_ n2_ n3_
         obtain ⟨Ao167, co167, eo167⟩ := Kd.R_slice HO_15.out
         (first | subst eo167 | (injection eo167 with f1_ f2_ f3_; have f4_ := f1_.symm; have f5_ := f3_.symm; clear f1_ f2_ f3_; subst f4_; subst f5_))
         have p143 : 0 ≤ ((ji159) : Int) := of_decide_eq_true (by first | (with_reducible assumption) | assumption)
         have q143 : (ji159) < (x15_3.length : Int) := of_decide_eq_true (by first | (with_reducible assumption) | assumption)
         obtain ⟨ad143, e143, hx143_0⟩ := Kd.at_int (Kd.R_reads' HO_15.out).2.2 (ji159) p143 q143
         cases e143
         replace p143 := eq_true p143
         replace q143 := eq_true q143
         have p165 : 0 ≤ ((ji159) : Int) := of_decide_eq_true (by first | (with_reducible assumption) | assumption)
         have q165 : ((ji159) : Int) < ((x15_3.length : Int) : Int) := of_decide_eq_true (by first | (with_reducible assumption) | assumption)
         obtain ⟨go165, co165, eo165, gb165, gl165, cl165, HG165⟩ := Kd.R_form HO_15.out (by omega)
         (first | cases eo165 | (injection eo165 with ea_ en_ ec_; (first | subst ea_ | (injection ea_ with ea_; subst ea_)); subst ec_; clear en_))
         have GB165 := Aside0.mk gb165
         have GG165 := Aside0.mk HG165
         clear gb165 gl165 HG165
         (first | simp only [add_plain] at hx143_0 | skip)
         obtain ⟨hx165_0, hf165_0⟩ := Kd.R_celln 0 HO_15.out ((ji159) : Int) p165 q165
         replace p165 := eq_true p165
         replace q165 := eq_true q165
         have HP168 := Kd.R_putn HO_15.out ((ji159) : Int) (Go.bits .xor .u8 (rd x15_3 (ji159)) (ji164))
         rw [← Ny144.out] at HP168
         have HQ168 := Aside0.mk HP168
         clear HP168
         refine start_ (n := 11) (S := fun w' => w'.cell? ⟨go165, ((ji159)).toNat, none⟩ = some (.int .u8 (rd x15_3 (ji159)))) (ds := [10]) #[false, false, false, false, false, false, false, false, false, false, false] (by kernel_rfl) rfl rfl (hx143_0) (fun hHeld => ?_); refine with_tabW stillagelaw01_CrcTells.tab28 stillagelaw01_CrcTells.bits28 (fun HT_ HW_ => ?_)
         generalize wr.drew = w166 at HO_15 BK110 BK120 HB GG165 HQ168 hf165_0 hx143_0 hx165_0 hHeld ⊢
         refine pure_ (i := 0) (N := some 145) (v := ?_) (a' := ?_) #[true, false, false, false, false, false, false, false, false, false, false] rfl rfl (any_of HT_.out (by kernel_rfl)) (fun _ _ _ h => h) (Or.inl ⟨by rfl, ?_⟩) ?_ ?_
         rotate_left
         ·intro w'
          go_simp
          with_reducible rfl
         rotate_left
         ·simp only [Act.put, List.setIfInBounds_toArray, List.set_cons_zero, List.set_cons_succ, i64_w, i32_w]
          rfl
         refine pure_ (i := 1) (N := some 146) (v := ?_) (a' := ?_) #[true, true, false, false, false, false, false, false, false, false, false] rfl rfl (any_of HT_.out (by kernel_rfl)) (fun _ _ _ h => h) (Or.inl ⟨by rfl, ?_⟩) ?_ ?_
         rotate_left
         ·intro w'
          go_simp
          with_reducible rfl
         rotate_left
         ·simp only [Act.put, List.setIfInBounds_toArray, List.set_cons_zero, List.set_cons_succ, i64_w, i32_w]
          rfl
         refine pure_ (i := 2) (N := some 147) (v := ?_) (a' := ?_) #[true, true, true, false, false, false, false, false, false, false, false] rfl rfl (any_of HT_.out (by kernel_rfl)) (fun _ _ _ h => h) (Or.inl ⟨by rfl, ?_⟩) ?_ ?_
         rotate_left
         ·intro w'
          go_simp
          with_reducible rfl
         rotate_left
         ·simp only [Act.put, List.setIfInBounds_toArray, List.set_cons_zero, List.set_cons_succ, i64_w, i32_w]
          rfl
         refine pure_ (i := 3) (N := some 148) (v := ?_) (a' := ?_) #[true, true, true, true, false, false, false, false, false, false, false] rfl rfl (any_of HT_.out (by kernel_rfl)) (fun _ _ _ h => h) (Or.inl ⟨by rfl, ?_⟩) ?_ ?_
         rotate_left
         ·intro w'
          go_simp
          with_reducible rfl
         rotate_left
         ·simp only [Act.put, List.setIfInBounds_toArray, List.set_cons_zero, List.set_cons_succ, i64_w, i32_w]
          rfl
         refine pure_ (i := 5) (N := some 150) (v := ?_) (a' := ?_) #[true, true, true, true, false, true, false, false, false, false, false] rfl rfl (any_of HT_.out (by kernel_rfl)) (fun _ _ _ h => h) (Or.inl ⟨by rfl, ?_⟩) ?_ ?_
         rotate_left
         ·intro w'
          go_simp
          with_reducible rfl
         rotate_left
         ·simp only [Act.put, List.setIfInBounds_toArray, List.set_cons_zero, List.set_cons_succ, i64_w, i32_w]
          rfl
         refine pure_ (i := 6) (N := some 151) (v := ?_) (a' := ?_) #[true, true, true, true, false, true, true, false, false, false, false] rfl rfl (any_of HT_.out (by kernel_rfl)) (fun _ _ _ h => h) (Or.inl ⟨by rfl, ?_⟩) ?_ ?_
         rotate_left
         ·intro w'
          go_simp
          with_reducible rfl
         rotate_left
         ·simp only [Act.put, List.setIfInBounds_toArray, List.set_cons_zero, List.set_cons_succ, i64_w, i32_w]
          rfl
         refine pure_ (i := 7) (N := some 152) (v := ?_) (a' := ?_) #[true, true, true, true, false, true, true, true, false, false, false] rfl rfl (any_of HT_.out (by kernel_rfl)) (fun _ _ _ h => h) (Or.inl ⟨by rfl, ?_⟩) ?_ ?_
         rotate_left
         ·intro w'
          go_simp
          with_reducible rfl
         rotate_left
         ·simp only [Act.put, List.setIfInBounds_toArray, List.set_cons_zero, List.set_cons_succ, i64_w, i32_w]
          rfl
         refine take_ (i := 4) (N := some 149) (v := ?_) (a' := ?_) #[true, true, true, true, true, true, true, true, false, false, false] rfl rfl (take_ofW HT_.out HW_.out (by kernel_rfl)) (fun _ _ _ h => h) (Or.inl ⟨by rfl, ?_⟩) hHeld ?_ ?_
         rotate_left
         ·intro w' s0
          go_simp
          with_reducible rfl
         rotate_left
         ·simp only [Act.put, List.setIfInBounds_toArray, List.set_cons_zero, List.set_cons_succ, i64_w, i32_w]
          rfl
         refine pure_ (i := 8) (N := some 153) (v := ?_) (a' := ?_) #[true, true, true, true, true, true, true, true, true, false, false] rfl rfl (any_of HT_.out (by kernel_rfl)) (fun _ _ _ h => h) (Or.inl ⟨by rfl, ?_⟩) ?_ ?_
         rotate_left
         ·intro w'
          go_simp
          with_reducible rfl
         rotate_left
         ·simp only [Act.put, List.setIfInBounds_toArray, List.set_cons_zero, List.set_cons_succ, i64_w, i32_w]
          rfl
         refine pure_ (i := 9) (N := some 154) (v := ?_) (a' := ?_) #[true, true, true, true, true, true, true, true, true, true, false] rfl rfl (any_of HT_.out (by kernel_rfl)) (fun _ _ _ h => h) (Or.inl ⟨by rfl, ?_⟩) ?_ ?_
         rotate_left
         ·intro w'
          go_simp
          with_reducible rfl
         rotate_left
         ·simp only [Act.put, List.setIfInBounds_toArray, List.set_cons_zero, List.set_cons_succ, i64_w, i32_w]
          rfl
         refine last_ (i := 10) (N := none) #[true, true, true, true, true, true, true, true, true, true, true] rfl rfl (one_of HT_.out (by kernel_rfl)) (by decide) (fun K hK => ?_)
         refine skip_ (w1 := ?_) (by rfl) rfl ?_ ?_
         rotate_left
         ·go_simp
          rfl
         refine hK.out _ _ ?_
         clear hK K
         refine done_ (done_of HT_.out (by kernel_rfl)) ?_
         try go_wp2
         go_roundg k3
         case measure => have := HJ3.out; have := HK2.out; have := HK3.out; omega
         case rel => exact ⟨(y144), (wrap64 (x17_3 + 1)), (by first | rfl | (simp; done) | (simp [*]; done)), H', ⟨by have := HJ3.out; have := HK2.out; have := HK3.out; omega⟩, ⟨by (with_reducible repeat (first | apply Kd.R_alloc | apply Kd.R_drewN | apply Kd.R_drew)); exact HQ168.out⟩, ⟨by (with_reducible repeat (first | refine blk_drewN ?_ _ | refine blk_drew ?_ | refine blk_alloc ?_ _)); refine blk_far ?_ (by have h_ := Kd.R_ne HO_15.out BK110.out (by decide); intro e_; exact h_ (by rw [e_]; rfl)) _; (with_reducible repeat (first | refine blk_drewN ?_ _ | refine blk_drew ?_ | refine blk_alloc ?_ _)); exact BK110.out⟩, ⟨by (with_reducible repeat (first | refine blk_drewN ?_ _ | refine blk_drew ?_ | refine blk_alloc ?_ _)); refine blk_far ?_ (by have h_ := Kd.R_ne HO_15.out BK120.out (by decide); intro e_; exact h_ (by rw [e_]; rfl)) _; (with_reducible repeat (first | refine blk_drewN ?_ _ | refine blk_drew ?_ | refine blk_alloc ?_ _)); exact BK120.out⟩, ⟨by repeat (first | (with_reducible first | exact HB.out | apply below_alloc | apply pw_below_drewN | apply below_drew1 | refine below_set ?_ GB165.out | refine below_set ?_ GE110.out | refine below_set ?_ GE120.out) | exact HB.out)⟩⟩
      case rest =>
       clear HC151
       obtain ⟨kq, x15_150, HA, HJ150, HO_15, BK110, BK120, HB⟩ := hcut
       cases kq with
       | zero => exact absurd HA.out (by simp [stillagelaw01_CrcTells.j12])
       | succ kj150 =>
        have H := HA.out
        clear HA
        simp only [stillagelaw01_CrcTells.j12] at H
        have H' := Aside0.mk H
        clear H
        obtain ⟨Ao169, co169, eo169⟩ := Kd.R_slice HO_15.out
        subst eo169
        go_wp2
        go_loopg [16, 157] kj150 (fun kq v16 v157 w' => ∃ (x16_4 : Int) (x157_4 : Int), v16 = .int .i64 x16_4 ∧ v157 = .int .i64 x157_4 ∧ Aside0 (stillagelaw01_CrcTells.l2 kq l0 t113 x15_150 x16_4 (x15_150.length : Int) x157_4 = some r) ∧ Aside0 (kq ≤ kj150) ∧ Aside0 (Kd.R (Kd.int .u8) 5 w' w.heap.size (fun _ => True) (.slice Ao169 x15_150.length co169) x15_150) ∧ Aside0 (w'.heap[gb110]? = some (.cells #[.int .i64 a1_0, .int .i64 a1_1, .int .i64 a1_2] 44 (0, 0))) ∧ Aside0 (w'.heap[gb120]? = some (.cells #[.int .i64 x121000_2, .int .i64 x121001_2, .int .i64 x121002_2] 44 (0, 0))) ∧ Aside0 (Below w.heap.size w w'))
        case atStart => exact ⟨(0), (0), (by first | rfl | (simp; done) | (simp [*]; done)), (by first | rfl | (simp; done) | (simp [*]; done)), H', ⟨Nat.le_refl _⟩, ⟨by (with_reducible repeat (first | apply Kd.R_alloc | apply Kd.R_drewN | apply Kd.R_drew)); exact HO_15.out⟩, ⟨by (with_reducible repeat (first | refine blk_drewN ?_ _ | refine blk_drew ?_ | refine blk_alloc ?_ _)); exact BK110.out⟩, ⟨by (with_reducible repeat (first | refine blk_drewN ?_ _ | refine blk_drew ?_ | refine blk_alloc ?_ _)); exact BK120.out⟩, ⟨by repeat (first | (with_reducible first | exact HB.out | apply below_alloc | apply pw_below_drewN | apply below_drew1 | refine below_set ?_ GE110.out | refine below_set ?_ GE120.out) | exact HB.out)⟩⟩
        case round =>
         clear H'
         obtain ⟨x16_4, x157_4, rfl, rfl, HA, HK4, HO_15, BK110, BK120, HB⟩ := hrel
         cases gk with
         | zero => exact absurd HA.out (by simp [stillagelaw01_CrcTells.l2])
         | succ k4 =>
          have H := HA.out
          clear HA
          simp only [stillagelaw01_CrcTells.l2] at H
          by_cases c170 : x157_4 < (x15_150.length : Int)
          rotate_left
          ·rw [if_neg c170] at H
           have c170b0 : decide (x157_4 < (x15_150.length : Int)) = false := decide_eq_false c170
           clear c170
           by_cases c176 : (Int.tmod x16_4 2) = 0
           ·rw [if_pos c176] at H
            have c176b0 : ((Int.tmod x16_4 2) == 0) = true := beq_iff_eq.mpr c176
            have c176b1 : ((Int.tmod x16_4 2) != 0) = false := bne_eq_false_iff_eq.mpr c176
            clear c176
            obtain rfl := Option.some.inj H
            go_wp2
            go_ret
            exact ⟨by first | rfl | (simp [errW_none, errW_some] <;> rfl) | (simp [*, errW_none, errW_some] <;> rfl), by repeat (first | (with_reducible first | exact HB.out | apply below_alloc | apply pw_below_drewN | apply below_drew1 | refine below_set ?_ GE110.out | refine below_set ?_ GE120.out) | exact HB.out)⟩
           rw [if_neg c176] at H
           have c176b0 : ((Int.tmod x16_4 2) == 0) = false := beq_eq_false_iff_ne.mpr c176
           have c176b1 : ((Int.tmod x16_4 2) != 0) = true := bne_iff_ne.mpr c176
           replace H := Option.bind_eq_some_iff.mp H
           obtain ⟨t145, A1770, H⟩ := H
           replace H : (some (t145 != t113)) = some r := H
           have A177 := Aside0.mk A1770
           clear A1770
           obtain rfl := Option.some.inj H
           go_wp2_with (first | (go_at_call 14; (with_reducible refine (crc_Sum.calls k4 _ _ x15_150 t145 _ ?side1 ?side2 A177.out).mono ?_); (case side1 => repeat (first | exact (Kd.R_reads' HO_15.out).2.2 | (with_reducible refine Kd.C_alloc ?_ _) | (with_reducible refine Kd.C_drewN ?_ _) | (with_reducible refine Kd.C_drew ?_))); (case side2 => exact (Kd.R_reads' HO_15.out).2.1); rintro e w' ⟨rfl, ⟨nd, rfl⟩⟩))
           go_ret
           exact ⟨by first | rfl | (simp [errW_none, errW_some] <;> rfl) | (simp [*, errW_none, errW_some] <;> rfl), by repeat (first | (with_reducible first | exact HB.out | apply below_alloc | apply pw_below_drewN | apply below_drew1 | refine below_set ?_ GE110.out | refine below_set ?_ GE120.out) | exact HB.out)⟩
          rw [if_pos c170] at H
          have c170b0 : decide (x157_4 < (x15_150.length : Int)) = true := decide_eq_true c170
          clear c170
          by_cases c171 : 0 ≤ x157_4
          rotate_left
          ·rw [if_neg c171] at H
           exact absurd H (by simp)
          rw [if_pos c171] at H
          have c171b0 : decide (0 ≤ x157_4) = true := decide_eq_true c171
          clear c171
          by_cases c172 : x157_4 < (x15_150.length : Int)
          rotate_left
          ·rw [if_neg c172] at H
           exact absurd H (by simp)
          rw [if_pos c172] at H
          have c172b0 : decide (x157_4 < (x15_150.length : Int)) = true := decide_eq_true c172
          clear c172
          by_cases c173 : x157_4 < (l0.length : Int)
          rotate_left
          ·rw [if_neg c173] at H
           exact absurd H (by simp)
          rw [if_pos c173] at H
          have c173b0 : decide (x157_4 < (l0.length : Int)) = true := decide_eq_true c173
          clear c173
          have H' := Aside0.mk H
          clear H
          try go_wp2
          have n0_ := Aside0.mk (Kd.R_drew HO_15.out)
          have n1_ := Aside0.mk (blk_drew BK110.out)
          have n2_ := Aside0.mk (blk_drew BK120.out)
          have n3_ := Aside0.mk (below_drew1 HB.out)
          clear HO_15
          clear BK110
          clear BK120
          clear HB
          have HO_15 := n0_
          have BK110 := n1_
          have BK120 := n2_
          have HB := n3_
          clear n0_ n1_ n2_ n3_
          have p146 : 0 ≤ (x157_4 : Int) := of_decide_eq_true (by first | (with_reducible assumption) | assumption)
          have q146 : x157_4 < (x15_150.length : Int) := of_decide_eq_true (by first | (with_reducible assumption) | assumption)
          obtain ⟨ad146, e146, hx146_0⟩ := Kd.at_int (Kd.R_reads' HO_15.out).2.2 x157_4 p146 q146
          cases e146
          replace p146 := eq_true p146
          replace q146 := eq_true q146
          have p147 : 0 ≤ (x157_4 : Int) := of_decide_eq_true (by first | (with_reducible assumption) | assumption)
          have q147 : x157_4 < (l0.length : Int) := of_decide_eq_true (by first | (with_reducible assumption) | assumption)
          obtain ⟨ad147, e147, hx147_0⟩ := Kd.at_int HR0.out x157_4 p147 q147
          have hw147_0 := hx147_0
          cases e147
          replace hx147_0 := (HB.out.cell (World.block_lt_of_cell? w _ hx147_0)).trans hx147_0
          replace p147 := eq_true p147
          replace q147 := eq_true q147
          refine start_ (n := 10) (S := fun w' => w'.cell? (ad146.add (x157_4).toNat) = some (.int .u8 (rd x15_150 x157_4)) ∧ w'.cell? (ad147.add (x157_4).toNat) = some (.int .u8 (rd l0 x157_4))) (ds := []) #[false, false, false, false, false, false, false, false, false, false] (by kernel_rfl) rfl rfl ⟨hx146_0, ((HB.out.cell (World.block_lt_of_cell? w _ hw147_0)).trans hw147_0)⟩ (fun hHeld => ?_); refine with_tabW stillagelaw01_CrcTells.tab32 stillagelaw01_CrcTells.bits32 (fun HT_ HW_ => ?_)
          generalize wr.drew = w174 at HO_15 BK110 BK120 HB hx146_0 hx147_0 hHeld ⊢
          refine pure_ (i := 0) (N := some 160) (v := ?_) (a' := ?_) #[true, false, false, false, false, false, false, false, false, false] rfl rfl (any_of HT_.out (by kernel_rfl)) (fun _ _ _ h => h) (Or.inl ⟨by rfl, ?_⟩) ?_ ?_
          rotate_left
          ·intro w'
           go_simp
           with_reducible rfl
          rotate_left
          ·simp only [Act.put, List.setIfInBounds_toArray, List.set_cons_zero, List.set_cons_succ, i64_w, i32_w]
           rfl
          refine pure_ (i := 1) (N := some 161) (v := ?_) (a' := ?_) #[true, true, false, false, false, false, false, false, false, false] rfl rfl (any_of HT_.out (by kernel_rfl)) (fun _ _ _ h => h) (Or.inl ⟨by rfl, ?_⟩) ?_ ?_
          rotate_left
          ·intro w'
           go_simp
           with_reducible rfl
          rotate_left
          ·simp only [Act.put, List.setIfInBounds_toArray, List.set_cons_zero, List.set_cons_succ, i64_w, i32_w]
           rfl
          refine pure_ (i := 2) (N := some 162) (v := ?_) (a' := ?_) #[true, true, true, false, false, false, false, false, false, false] rfl rfl (any_of HT_.out (by kernel_rfl)) (fun _ _ _ h => h) (Or.inl ⟨by rfl, ?_⟩) ?_ ?_
          rotate_left
          ·intro w'
           go_simp
           with_reducible rfl
          rotate_left
          ·simp only [Act.put, List.setIfInBounds_toArray, List.set_cons_zero, List.set_cons_succ, i64_w, i32_w]
           rfl
          refine pure_ (i := 4) (N := some 164) (v := ?_) (a' := ?_) #[true, true, true, false, true, false, false, false, false, false] rfl rfl (any_of HT_.out (by kernel_rfl)) (fun _ _ _ h => h) (Or.inl ⟨by rfl, ?_⟩) ?_ ?_
          rotate_left
          ·intro w'
           go_simp
           with_reducible rfl
          rotate_left
          ·simp only [Act.put, List.setIfInBounds_toArray, List.set_cons_zero, List.set_cons_succ, i64_w, i32_w]
           rfl
          refine pure_ (i := 5) (N := some 165) (v := ?_) (a' := ?_) #[true, true, true, false, true, true, false, false, false, false] rfl rfl (any_of HT_.out (by kernel_rfl)) (fun _ _ _ h => h) (Or.inl ⟨by rfl, ?_⟩) ?_ ?_
          rotate_left
          ·intro w'
           go_simp
           with_reducible rfl
          rotate_left
          ·simp only [Act.put, List.setIfInBounds_toArray, List.set_cons_zero, List.set_cons_succ, i64_w, i32_w]
           rfl
          refine pure_ (i := 6) (N := some 166) (v := ?_) (a' := ?_) #[true, true, true, false, true, true, true, false, false, false] rfl rfl (any_of HT_.out (by kernel_rfl)) (fun _ _ _ h => h) (Or.inl ⟨by rfl, ?_⟩) ?_ ?_
          rotate_left
          ·intro w'
           go_simp
           with_reducible rfl
          rotate_left
          ·simp only [Act.put, List.setIfInBounds_toArray, List.set_cons_zero, List.set_cons_succ, i64_w, i32_w]
           rfl
          refine take_ (i := 3) (N := some 163) (v := ?_) (a' := ?_) #[true, true, true, true, true, true, true, false, false, false] rfl rfl (take_ofW HT_.out HW_.out (by kernel_rfl)) (fun _ _ _ h => h) (Or.inl ⟨by rfl, ?_⟩) hHeld ?_ ?_
          rotate_left
          ·rintro w' ⟨s0, s1⟩
           go_simp
           with_reducible rfl
          rotate_left
          ·simp only [Act.put, List.setIfInBounds_toArray, List.set_cons_zero, List.set_cons_succ, i64_w, i32_w]
           rfl
          refine take_ (i := 7) (N := some 167) (v := ?_) (a' := ?_) #[true, true, true, true, true, true, true, true, false, false] rfl rfl (take_ofW HT_.out HW_.out (by kernel_rfl)) (fun _ _ _ h => h) (Or.inl ⟨by rfl, ?_⟩) hHeld ?_ ?_
          rotate_left
          ·rintro w' ⟨s0, s1⟩
           go_simp
           with_reducible rfl
          rotate_left
          ·simp only [Act.put, List.setIfInBounds_toArray, List.set_cons_zero, List.set_cons_succ, i64_w, i32_w]
           rfl
          refine pure_ (i := 8) (N := some 168) (v := ?_) (a' := ?_) #[true, true, true, true, true, true, true, true, true, false] rfl rfl (any_of HT_.out (by kernel_rfl)) (fun _ _ _ h => h) (Or.inl ⟨by rfl, ?_⟩) ?_ ?_
          rotate_left
          ·intro w'
           go_simp
           with_reducible rfl
          rotate_left
          ·simp only [Act.put, List.setIfInBounds_toArray, List.set_cons_zero, List.set_cons_succ, i64_w, i32_w]
           rfl
          refine pure_ (i := 9) (N := some 20) (v := ?_) (a' := ?_) #[true, true, true, true, true, true, true, true, true, true] rfl rfl (any_of HT_.out (by kernel_rfl)) (fun _ _ _ h => h) (Or.inl ⟨by rfl, ?_⟩) ?_ ?_
          rotate_left
          ·intro w'
           go_simp
           with_reducible rfl
          rotate_left
          ·simp only [Act.put, List.setIfInBounds_toArray, List.set_cons_zero, List.set_cons_succ, i64_w, i32_w]
           rfl
          refine done_ (done_of HT_.out (by kernel_rfl)) ?_
          try go_wp2
          go_loopg [16, 20] k4 (fun kq v16 v20 w' => ∃ (x16_5 : Int) (x20_5 : Int), v16 = .int .i64 x16_5 ∧ v20 = .int .u8 x20_5 ∧ Aside0 (stillagelaw01_CrcTells.l3 kq l0 t113 x15_150 x16_5 x20_5 (x15_150.length : Int) x157_4 = some r) ∧ Aside0 (kq ≤ k4) ∧ Aside0 (Kd.R (Kd.int .u8) 5 w' w.heap.size (fun _ => True) (.slice (some ad146) x15_150.length co169) x15_150) ∧ Aside0 (w'.heap[gb110]? = some (.cells #[.int .i64 a1_0, .int .i64 a1_1, .int .i64 a1_2] 44 (0, 0))) ∧ Aside0 (w'.heap[gb120]? = some (.cells #[.int .i64 x121000_2, .int .i64 x121001_2, .int .i64 x121002_2] 44 (0, 0))) ∧ Aside0 (Below w.heap.size w w'))
          case atStart => exact ⟨(x16_4), (Go.bits .xor .u8 (rd x15_150 x157_4) (rd l0 x157_4)), (by first | rfl | (simp; done) | (simp [*]; done)), (by first | rfl | (simp; done) | (simp [*]; done)), H', ⟨Nat.le_refl _⟩, ⟨by (with_reducible repeat (first | apply Kd.R_alloc | apply Kd.R_drewN | apply Kd.R_drew)); exact HO_15.out⟩, ⟨by (with_reducible repeat (first | refine blk_drewN ?_ _ | refine blk_drew ?_ | refine blk_alloc ?_ _)); exact BK110.out⟩, ⟨by (with_reducible repeat (first | refine blk_drewN ?_ _ | refine blk_drew ?_ | refine blk_alloc ?_ _)); exact BK120.out⟩, ⟨by repeat (first | (with_reducible first | exact HB.out | apply below_alloc | apply pw_below_drewN | apply below_drew1 | refine below_set ?_ GE110.out | refine below_set ?_ GE120.out) | exact HB.out)⟩⟩
          case round =>
           clear H'
           obtain ⟨x16_5, x20_5, rfl, rfl, HA, HK5, HO_15, BK110, BK120, HB⟩ := hrel
           cases gk with
           | zero => exact absurd HA.out (by simp [stillagelaw01_CrcTells.l3])
           | succ k5 =>
            have H := HA.out
            clear HA
            simp only [stillagelaw01_CrcTells.l3] at H
            by_cases c175 : x20_5 = 0
            ·rw [if_pos c175] at H
             have c175b0 : (x20_5 == 0) = true := beq_iff_eq.mpr c175
             have c175b1 : (x20_5 != 0) = false := bne_eq_false_iff_eq.mpr c175
             clear c175
             have H' := Aside0.mk H
             clear H
             go_wp2
             go_roundg k5
             case measure => have := HJ3.out; have := HK2.out; have := HJ150.out; have := HK4.out; have := HK5.out; omega
             case rel => exact ⟨(x16_5), (wrap64 (x157_4 + 1)), (by first | rfl | (simp; done) | (simp [*]; done)), (by first | rfl | (simp; done) | (simp [*]; done)), H', ⟨by have := HJ3.out; have := HK2.out; have := HJ150.out; have := HK4.out; have := HK5.out; omega⟩, ⟨by (with_reducible repeat (first | apply Kd.R_alloc | apply Kd.R_drewN | apply Kd.R_drew)); exact HO_15.out⟩, ⟨by (with_reducible repeat (first | refine blk_drewN ?_ _ | refine blk_drew ?_ | refine blk_alloc ?_ _)); exact BK110.out⟩, ⟨by (with_reducible repeat (first | refine blk_drewN ?_ _ | refine blk_drew ?_ | refine blk_alloc ?_ _)); exact BK120.out⟩, ⟨by repeat (first | (with_reducible first | exact HB.out | apply below_alloc | apply pw_below_drewN | apply below_drew1 | refine below_set ?_ GE110.out | refine below_set ?_ GE120.out) | exact HB.out)⟩⟩
            rw [if_neg c175] at H
            have c175b0 : (x20_5 == 0) = false := beq_eq_false_iff_ne.mpr c175
            have c175b1 : (x20_5 != 0) = true := bne_iff_ne.mpr c175
            have H' := Aside0.mk H
            clear H
            go_wp2
            go_roundg k5
            case measure => have := HJ3.out; have := HK2.out; have := HJ150.out; have := HK4.out; have := HK5.out; omega
            case rel => exact ⟨(wrap64 (x16_5 + 1)), (Go.bits .and .u8 x20_5 ((x20_5 - 1) % 256)), (by first | rfl | (simp; done) | (simp [*]; done)), (by first | rfl | (simp; done) | (simp [*]; done)), H', ⟨by have := HJ3.out; have := HK2.out; have := HJ150.out; have := HK4.out; have := HK5.out; omega⟩, ⟨by (with_reducible repeat (first | apply Kd.R_alloc | apply Kd.R_drewN | apply Kd.R_drew)); exact HO_15.out⟩, ⟨by (with_reducible repeat (first | refine blk_drewN ?_ _ | refine blk_drew ?_ | refine blk_alloc ?_ _)); exact BK110.out⟩, ⟨by (with_reducible repeat (first | refine blk_drewN ?_ _ | refine blk_drew ?_ | refine blk_alloc ?_ _)); exact BK120.out⟩, ⟨by repeat (first | (with_reducible first | exact HB.out | apply below_alloc | apply pw_below_drewN | apply below_drew1 | refine below_set ?_ GE110.out | refine below_set ?_ GE120.out) | exact HB.out)⟩⟩
     rw [if_pos c21] at H
     have c21b0 : decide (x43_2 < 3) = true := decide_eq_true c21
     clear c21
     by_cases c22 : 0 ≤ x43_2
     rotate_left
     ·rw [if_neg c22] at H
      exact absurd H (by simp)
     rw [if_pos c22] at H
     have c22b0 : decide (0 ≤ x43_2) = true := decide_eq_true c22
     clear c22
     by_cases c23 : (IntKind.u64.wrap (wrap64 (8 * (l0.length : Int)))) = 0
     ·rw [if_pos c23] at H
      exact absurd H (by simp)
     rw [if_neg c23] at H
     have c23b0 : ((IntKind.u64.wrap (wrap64 (8 * (l0.length : Int)))) == 0) = false := beq_eq_false_iff_ne.mpr c23
     have c23b1 : ((IntKind.u64.wrap (wrap64 (8 * (l0.length : Int)))) != 0) = true := bne_iff_ne.mpr c23
     by_cases c24 : x43_2 = 0
     ·subst c24
      have H1 : (if 0 ≤ (wrap64 (Int.tdiv (wrap64 (Int.tmod (IntKind.u64.wrap a1_0) (IntKind.u64.wrap (wrap64 (8 * (l0.length : Int)))))) 8)) then (if (wrap64 (Int.tdiv (wrap64 (Int.tmod (IntKind.u64.wrap a1_0) (IntKind.u64.wrap (wrap64 (8 * (l0.length : Int)))))) 8)) < (x9_2.length : Int) then (if 0 ≤ (Int.tmod (wrap64 (Int.tmod (IntKind.u64.wrap a1_0) (IntKind.u64.wrap (wrap64 (8 * (l0.length : Int)))))) 8) then ((some (x9_2.set ((wrap64 (Int.tdiv (wrap64 (Int.tmod (IntKind.u64.wrap a1_0) (IntKind.u64.wrap (wrap64 (8 * (l0.length : Int)))))) 8)) : Int).toNat (Go.bits .xor .u8 (rd x9_2 (wrap64 (Int.tdiv (wrap64 (Int.tmod (IntKind.u64.wrap a1_0) (IntKind.u64.wrap (wrap64 (8 * (l0.length : Int)))))) 8))) (shr .u8 128 (Int.tmod (wrap64 (Int.tmod (IntKind.u64.wrap a1_0) (IntKind.u64.wrap (wrap64 (8 * (l0.length : Int)))))) 8))) : List Int)).bind fun y122 => (if 0 = 1 then (stillagelaw01_CrcTells.j2 k2 l0 l2 (IntKind.u64.wrap (wrap64 (8 * (l0.length : Int)))) t113 y122 0 ((wrap64 (Int.tmod (IntKind.u64.wrap a1_0) (IntKind.u64.wrap (wrap64 (8 * (l0.length : Int)))))) != x121001_2) 0 a1_0 a1_1 a1_2 (wrap64 (Int.tmod (IntKind.u64.wrap a1_0) (IntKind.u64.wrap (wrap64 (8 * (l0.length : Int)))))) x121001_2 x121002_2) else (stillagelaw01_CrcTells.j2 k2 l0 l2 (IntKind.u64.wrap (wrap64 (8 * (l0.length : Int)))) t113 y122 0 true 0 a1_0 a1_1 a1_2 (wrap64 (Int.tmod (IntKind.u64.wrap a1_0) (IntKind.u64.wrap (wrap64 (8 * (l0.length : Int)))))) x121001_2 x121002_2))) else (none)) else (none)) else (none)) = some r := by rw [if_pos rfl] at H; exact H
      clear H
      have H := H1
      clear H1
      obtain ⟨ji25, hji25⟩ : ∃ j_ : Int, (wrap64 (Int.tdiv (wrap64 (Int.tmod (IntKind.u64.wrap a1_0) (IntKind.u64.wrap (wrap64 (8 * (l0.length : Int)))))) 8)) = j_ := ⟨_, rfl⟩
      replace H : (if 0 ≤ (ji25) then (if (ji25) < (x9_2.length : Int) then (if 0 ≤ (Int.tmod (wrap64 (Int.tmod (IntKind.u64.wrap a1_0) (IntKind.u64.wrap (wrap64 (8 * (l0.length : Int)))))) 8) then ((some (x9_2.set ((ji25) : Int).toNat (Go.bits .xor .u8 (rd x9_2 (ji25)) (shr .u8 128 (Int.tmod (wrap64 (Int.tmod (IntKind.u64.wrap a1_0) (IntKind.u64.wrap (wrap64 (8 * (l0.length : Int)))))) 8))) : List Int)).bind fun y122 => (if 0 = 1 then (stillagelaw01_CrcTells.j2 k2 l0 l2 (IntKind.u64.wrap (wrap64 (8 * (l0.length : Int)))) t113 y122 0 ((wrap64 (Int.tmod (IntKind.u64.wrap a1_0) (IntKind.u64.wrap (wrap64 (8 * (l0.length : Int)))))) != x121001_2) 0 a1_0 a1_1 a1_2 (wrap64 (Int.tmod (IntKind.u64.wrap a1_0) (IntKind.u64.wrap (wrap64 (8 * (l0.length : Int)))))) x121001_2 x121002_2) else (stillagelaw01_CrcTells.j2 k2 l0 l2 (IntKind.u64.wrap (wrap64 (8 * (l0.length : Int)))) t113 y122 0 true 0 a1_0 a1_1 a1_2 (wrap64 (Int.tmod (IntKind.u64.wrap a1_0) (IntKind.u64.wrap (wrap64 (8 * (l0.length : Int)))))) x121001_2 x121002_2))) else (none)) else (none)) else (none)) = some r := by first | (rw [hji25] at H; exact H) | (simp only [hji25] at H ⊢; exact H)
      have hji25w : (IntKind.i64.wrap (Int.tdiv (wrap64 (Int.tmod (IntKind.u64.wrap a1_0) (IntKind.u64.wrap (wrap64 (8 * (l0.length : Int)))))) 8)) = ji25 := (i64_w _).trans hji25
      by_cases c26 : 0 ≤ (ji25)
      rotate_left
      ·rw [if_neg c26] at H
       exact absurd H (by simp)
      rw [if_pos c26] at H
      have c26b0 : decide (0 ≤ (ji25)) = true := decide_eq_true c26
      clear c26
      by_cases c27 : (ji25) < (x9_2.length : Int)
      rotate_left
      ·rw [if_neg c27] at H
       exact absurd H (by simp)
      rw [if_pos c27] at H
      have c27b0 : decide ((ji25) < (x9_2.length : Int)) = true := decide_eq_true c27
      clear c27
      obtain ⟨ji28, hji28⟩ : ∃ j_ : Int, (Int.tmod (wrap64 (Int.tmod (IntKind.u64.wrap a1_0) (IntKind.u64.wrap (wrap64 (8 * (l0.length : Int)))))) 8) = j_ := ⟨_, rfl⟩
      replace H : (if 0 ≤ (ji28) then ((some (x9_2.set ((ji25) : Int).toNat (Go.bits .xor .u8 (rd x9_2 (ji25)) (shr .u8 128 (ji28))) : List Int)).bind fun y122 => (if 0 = 1 then (stillagelaw01_CrcTells.j2 k2 l0 l2 (IntKind.u64.wrap (wrap64 (8 * (l0.length : Int)))) t113 y122 0 ((wrap64 (Int.tmod (IntKind.u64.wrap a1_0) (IntKind.u64.wrap (wrap64 (8 * (l0.length : Int)))))) != x121001_2) 0 a1_0 a1_1 a1_2 (wrap64 (Int.tmod (IntKind.u64.wrap a1_0) (IntKind.u64.wrap (wrap64 (8 * (l0.length : Int)))))) x121001_2 x121002_2) else (stillagelaw01_CrcTells.j2 k2 l0 l2 (IntKind.u64.wrap (wrap64 (8 * (l0.length : Int)))) t113 y122 0 true 0 a1_0 a1_1 a1_2 (wrap64 (Int.tmod (IntKind.u64.wrap a1_0) (IntKind.u64.wrap (wrap64 (8 * (l0.length : Int)))))) x121001_2 x121002_2))) else (none)) = some r := by first | (rw [hji28] at H; exact H) | (simp only [hji28] at H ⊢; exact H)
      by_cases c29 : 0 ≤ (ji28)
      rotate_left
      ·rw [if_neg c29] at H
       exact absurd H (by simp)
      rw [if_pos c29] at H
      have c29b0 := eq_true c29
      have c29b1 : decide (0 ≤ (ji28)) = true := decide_eq_true c29
      clear c29
      obtain ⟨ji30, hji30⟩ : ∃ j_ : Int, (shr .u8 128 (ji28)) = j_ := ⟨_, rfl⟩
      replace H : ((some (x9_2.set ((ji25) : Int).toNat (Go.bits .xor .u8 (rd x9_2 (ji25)) (ji30)) : List Int)).bind fun y122 => (if 0 = 1 then (stillagelaw01_CrcTells.j2 k2 l0 l2 (IntKind.u64.wrap (wrap64 (8 * (l0.length : Int)))) t113 y122 0 ((wrap64 (Int.tmod (IntKind.u64.wrap a1_0) (IntKind.u64.wrap (wrap64 (8 * (l0.length : Int)))))) != x121001_2) 0 a1_0 a1_1 a1_2 (wrap64 (Int.tmod (IntKind.u64.wrap a1_0) (IntKind.u64.wrap (wrap64 (8 * (l0.length : Int)))))) x121001_2 x121002_2) else (stillagelaw01_CrcTells.j2 k2 l0 l2 (IntKind.u64.wrap (wrap64 (8 * (l0.length : Int)))) t113 y122 0 true 0 a1_0 a1_1 a1_2 (wrap64 (Int.tmod (IntKind.u64.wrap a1_0) (IntKind.u64.wrap (wrap64 (8 * (l0.length : Int)))))) x121001_2 x121002_2))) = some r := by first | (rw [hji30] at H; exact H) | (simp only [hji30] at H ⊢; exact H)
      have hji30_ : (128 / 2 ^ min (ji28).toNat 8) = ji30 := hji30
      have hji30z : (ji28) ≤ 8 → (128 / 2 ^ (ji28).toNat) = ji30 := shr_small hji30
      obtain ⟨y122, hy122⟩ : ∃ y_ : List Int, y_ = (x9_2.set ((ji25) : Int).toNat (Go.bits .xor .u8 (rd x9_2 (ji25)) (ji30))) := ⟨_, rfl⟩
      replace H : (if 0 = 1 then (stillagelaw01_CrcTells.j2 k2 l0 l2 (IntKind.u64.wrap (wrap64 (8 * (l0.length : Int)))) t113 y122 0 ((wrap64 (Int.tmod (IntKind.u64.wrap a1_0) (IntKind.u64.wrap (wrap64 (8 * (l0.length : Int)))))) != x121001_2) 0 a1_0 a1_1 a1_2 (wrap64 (Int.tmod (IntKind.u64.wrap a1_0) (IntKind.u64.wrap (wrap64 (8 * (l0.length : Int)))))) x121001_2 x121002_2) else (stillagelaw01_CrcTells.j2 k2 l0 l2 (IntKind.u64.wrap (wrap64 (8 * (l0.length : Int)))) t113 y122 0 true 0 a1_0 a1_1 a1_2 (wrap64 (Int.tmod (IntKind.u64.wrap a1_0) (IntKind.u64.wrap (wrap64 (8 * (l0.length : Int)))))) x121001_2 x121002_2)) = some r := by first | (rw [hy122]; with_reducible exact H) | (have H2_ := (Option.bind_some _ _).symm.trans H; rw [hy122]; with_reducible exact H2_) | (have H2_ := (Option.bind_some _ _).symm.trans H; with_reducible exact H2_) | with_reducible exact H | (rw [hy122]; exact H) | exact H
      have Ny122 := Aside0.mk hy122
      clear hy122
      have HC32 := Aside0.mk H
      clear H
      have hnb33 := NB110_120.out
      have hnc33 := NB120_110.out
      have hcz34_0 : wr.cell? ⟨gb110, 0, none⟩ = some (.int .i64 a1_0) := (blk_cell BK110.out 0).trans rfl
      have hcz34_1 : wr.cell? ⟨gb110, 1, none⟩ = some (.int .i64 a1_1) := (blk_cell BK110.out 1).trans rfl
      have hcz34_2 : wr.cell? ⟨gb110, 2, none⟩ = some (.int .i64 a1_2) := (blk_cell BK110.out 2).trans rfl
      have hfz34_0 := blk_frozen BK110.out 0
      have hfz34_1 := blk_frozen BK110.out 1
      have hfz34_2 := blk_frozen BK110.out 2
      have hcz36_0 : wr.cell? ⟨gb120, 0, none⟩ = some (.int .i64 x121000_2) := (blk_cell BK120.out 0).trans rfl
      have hcz36_1 : wr.cell? ⟨gb120, 1, none⟩ = some (.int .i64 x121001_2) := (blk_cell BK120.out 1).trans rfl
      have hcz36_2 : wr.cell? ⟨gb120, 2, none⟩ = some (.int .i64 x121002_2) := (blk_cell BK120.out 2).trans rfl
      have hfz36_0 := blk_frozen BK120.out 0
      have hfz36_1 := blk_frozen BK120.out 1
      have hfz36_2 := blk_frozen BK120.out 2
      try go_wp2
      have n0_ : Aside0 (Kd.R (Kd.int .u8) 5 (wr.setCell ⟨gb120, 0, none⟩ (.int .i64 (wrap64 (Int.tmod (IntKind.u64.wrap a1_0) (IntKind.u64.wrap (wrap64 (8 * (l0.length : Int)))))))) w.heap.size (fun _ => True) v118 x9_2) := ⟨by (with_reducible repeat (first | apply Kd.R_alloc | apply Kd.R_drewN | apply Kd.R_drew)); exact Kd.R_mono (Kd.R_far (p := ⟨gb120, 0, none⟩) (Kd.R_types HO_9.out BK120.out (by decide)) (fun _ hk => hk.2) (.int .i64 (wrap64 (Int.tmod (IntKind.u64.wrap a1_0) (IntKind.u64.wrap (wrap64 (8 * (l0.length : Int)))))))) (fun _ hk => trivial)⟩
      have n1_ : Aside0 ((wr.setCell ⟨gb120, 0, none⟩ (.int .i64 (wrap64 (Int.tmod (IntKind.u64.wrap a1_0) (IntKind.u64.wrap (wrap64 (8 * (l0.length : Int)))))))).heap[gb110]? = some (.cells #[.int .i64 a1_0, .int .i64 a1_1, .int .i64 a1_2] 44 (0, 0))) := ⟨by (with_reducible repeat (first | refine blk_drewN ?_ _ | refine blk_drew ?_ | refine blk_alloc ?_ _)); refine blk_far ?_ NB110_120.out _; (with_reducible repeat (first | refine blk_drewN ?_ _ | refine blk_drew ?_ | refine blk_alloc ?_ _)); exact BK110.out⟩
      have n2_ : Aside0 ((wr.setCell ⟨gb120, 0, none⟩ (.int .i64 (wrap64 (Int.tmod (IntKind.u64.wrap a1_0) (IntKind.u64.wrap (wrap64 (8 * (l0.length : Int)))))))).heap[gb120]? = some (.cells #[.int .i64 (wrap64 (Int.tmod (IntKind.u64.wrap a1_0) (IntKind.u64.wrap (wrap64 (8 * (l0.length : Int)))))), .int .i64 x121001_2, .int .i64 x121002_2] 44 (0, 0))) := ⟨by (with_reducible repeat (first | refine blk_drewN ?_ _ | refine blk_drew ?_ | refine blk_alloc ?_ _)); refine blk_put (cs := #[.int .i64 x121000_2, .int .i64 x121001_2, .int .i64 x121002_2]) ?_ 0 _ rfl; (with_reducible repeat (first | refine blk_drewN ?_ _ | refine blk_drew ?_ | refine blk_alloc ?_ _)); exact BK120.out⟩
      have n3_ : Aside0 (Below w.heap.size w (wr.setCell ⟨gb120, 0, none⟩ (.int .i64 (wrap64 (Int.tmod (IntKind.u64.wrap a1_0) (IntKind.u64.wrap (wrap64 (8 * (l0.length : Int))))))))) := ⟨by repeat (first | (with_reducible first | exact HB.out | apply below_alloc | apply pw_below_drewN | apply below_drew1 | refine below_set ?_ GE110.out | refine below_set ?_ GE120.out) | exact HB.out)⟩
      generalize (wr.setCell ⟨gb120, 0, none⟩ (.int .i64 (wrap64 (Int.tmod (IntKind.u64.wrap a1_0) (IntKind.u64.wrap (wrap64 (8 * (l0.length : Int)))))))) = w37 at n0_ n1_ n2_ n3_ ⊢
      have HO_9 := n0_
      have BK110 := n1_
      have BK120 := n2_
      have HB := n3_
      clear n0_ n1_ n2_ n3_
      have n0_ := Aside0.mk (Kd.R_drew HO_9.out)
      have n1_ := Aside0.mk (blk_drew BK110.out)
      have n2_ := Aside0.mk (blk_drew BK120.out)
      have n3_ := Aside0.mk (below_drew1 HB.out)
      clear HO_9
      clear BK110
      clear BK120
      clear HB
      have HO_9 := n0_
      have BK110 := n1_
      have BK120 := n2_
      have HB := n3_
      clear n0_ n1_ n2_ n3_
      obtain ⟨Ao39, co39, eo39⟩ := Kd.R_slice HO_9.out
      (first | subst eo39 | (injection eo39 with f1_ f2_ f3_; have f4_ := f1_.symm; have f5_ := f3_.symm; clear f1_ f2_ f3_; subst f4_; subst f5_))
      have p121 : 0 ≤ ((ji25) : Int) := of_decide_eq_true (by first | (with_reducible assumption) | assumption)
      have q121 : (ji25) < (x9_2.length : Int) := of_decide_eq_true (by first | (with_reducible assumption) | assumption)
      obtain ⟨ad121, e121, hx121_0⟩ := Kd.at_int (Kd.R_reads' HO_9.out).2.2 (ji25) p121 q121
      cases e121
      replace p121 := eq_true p121
      replace q121 := eq_true q121
      have p31 : 0 ≤ ((ji25) : Int) := of_decide_eq_true (by first | (with_reducible assumption) | assumption)
      have q31 : ((ji25) : Int) < ((x9_2.length : Int) : Int) := of_decide_eq_true (by first | (with_reducible assumption) | assumption)
      obtain ⟨go31, co31, eo31, gb31, gl31, cl31, HG31⟩ := Kd.R_form HO_9.out (by omega)
      (first | cases eo31 | (injection eo31 with ea_ en_ ec_; (first | subst ea_ | (injection ea_ with ea_; subst ea_)); subst ec_; clear en_))
      have GB31 := Aside0.mk gb31
      have GG31 := Aside0.mk HG31
      clear gb31 gl31 HG31
      (first | simp only [add_plain] at hx121_0 | skip)
      obtain ⟨hx31_0, hf31_0⟩ := Kd.R_celln 0 HO_9.out ((ji25) : Int) p31 q31
      replace p31 := eq_true p31
      replace q31 := eq_true q31
      have HP40 := Kd.R_putn HO_9.out ((ji25) : Int) (Go.bits .xor .u8 (rd x9_2 (ji25)) (ji30))
      rw [← Ny122.out] at HP40
      have HQ40 := Aside0.mk HP40
      clear HP40
      refine start_ (n := 15) (S := fun w' => w'.cell? ⟨gb120, 0, none⟩ = some (.int .i64 (wrap64 (Int.tmod (IntKind.u64.wrap a1_0) (IntKind.u64.wrap (wrap64 (8 * (l0.length : Int))))))) ∧ w'.cell? ⟨gb120, 1, none⟩ = some (.int .i64 x121001_2) ∧ w'.cell? ⟨gb120, 2, none⟩ = some (.int .i64 x121002_2) ∧ w'.cell? ⟨go31, ((ji25)).toNat, none⟩ = some (.int .u8 (rd x9_2 (ji25)))) (ds := [14]) #[false, false, false, false, false, false, false, false, false, false, false, false, false, false, false] (by kernel_rfl) rfl rfl ⟨(blk_cell BK120.out 0).trans rfl, (blk_cell BK120.out 1).trans rfl, (blk_cell BK120.out 2).trans rfl, hx121_0⟩ (fun hHeld => ?_); refine with_tabW stillagelaw01_CrcTells.tab11 stillagelaw01_CrcTells.bits11 (fun HT_ HW_ => ?_)
      generalize w37.drew = w38 at HO_9 BK110 BK120 HB GG31 HQ40 hf31_0 hx121_0 hx31_0 hHeld ⊢
      refine pure_ (i := 0) (N := some 55) (v := ?_) (a' := ?_) #[true, false, false, false, false, false, false, false, false, false, false, false, false, false, false] rfl rfl (any_of HT_.out (by kernel_rfl)) (fun _ _ _ h => h) (Or.inl ⟨by rfl, ?_⟩) ?_ ?_
      rotate_left
      ·intro w'
       go_simp
       with_reducible rfl
      rotate_left
      ·simp only [Act.put, List.setIfInBounds_toArray, List.set_cons_zero, List.set_cons_succ, i64_w, i32_w]
       rfl
      refine pure_ (i := 1) (N := some 56) (v := ?_) (a' := ?_) #[true, true, false, false, false, false, false, false, false, false, false, false, false, false, false] rfl rfl (any_of HT_.out (by kernel_rfl)) (fun _ _ _ h => h) (Or.inl ⟨by rfl, ?_⟩) ?_ ?_
      rotate_left
      ·intro w'
       go_simp
       with_reducible rfl
      rotate_left
      ·simp only [Act.put, List.setIfInBounds_toArray, List.set_cons_zero, List.set_cons_succ, i64_w, i32_w]
       rfl
      refine pure_ (i := 2) (N := some 57) (v := ?_) (a' := ?_) #[true, true, true, false, false, false, false, false, false, false, false, false, false, false, false] rfl rfl (any_of HT_.out (by kernel_rfl)) (fun _ _ _ h => h) (Or.inl ⟨by rfl, ?_⟩) ?_ ?_
      rotate_left
      ·intro w'
       go_simp
       with_reducible rfl
      rotate_left
      ·simp only [Act.put, List.setIfInBounds_toArray, List.set_cons_zero, List.set_cons_succ, i64_w, i32_w]
       rfl
      refine pure_ (i := 7) (N := some 62) (v := ?_) (a' := ?_) #[true, true, true, false, false, false, false, true, false, false, false, false, false, false, false] rfl rfl (any_of HT_.out (by kernel_rfl)) (fun _ _ _ h => h) (Or.inl ⟨by rfl, ?_⟩) ?_ ?_
      rotate_left
      ·intro w'
       go_simp
       with_reducible rfl
      rotate_left
      ·simp only [Act.put, List.setIfInBounds_toArray, List.set_cons_zero, List.set_cons_succ, i64_w, i32_w]
       rfl
      refine pure_ (i := 8) (N := some 63) (v := ?_) (a' := ?_) #[true, true, true, false, false, false, false, true, true, false, false, false, false, false, false] rfl rfl (any_of HT_.out (by kernel_rfl)) (fun _ _ _ h => h) (Or.inl ⟨by rfl, ?_⟩) ?_ ?_
      rotate_left
      ·intro w'
       go_simp
       with_reducible rfl
      rotate_left
      ·simp only [Act.put, List.setIfInBounds_toArray, List.set_cons_zero, List.set_cons_succ, i64_w, i32_w]
       rfl
      refine take_ (i := 3) (N := some 58) (v := ?_) (a' := ?_) #[true, true, true, true, false, false, false, true, true, false, false, false, false, false, false] rfl rfl (take_ofW HT_.out HW_.out (by kernel_rfl)) (fun _ _ _ h => h) (Or.inl ⟨by rfl, ?_⟩) hHeld ?_ ?_
      rotate_left
      ·rintro w' ⟨s0, s1, s2, s3⟩
       go_simp
       with_reducible rfl
      rotate_left
      ·simp only [Act.put, List.setIfInBounds_toArray, List.set_cons_zero, List.set_cons_succ, i64_w, i32_w]
       rfl
      refine pure_ (i := 4) (N := some 59) (v := ?_) (a' := ?_) #[true, true, true, true, true, false, false, true, true, false, false, false, false, false, false] rfl rfl (any_of HT_.out (by kernel_rfl)) (fun _ _ _ h => h) (Or.inl ⟨by rfl, ?_⟩) ?_ ?_
      rotate_left
      ·intro w'
       go_simp
       with_reducible rfl
      rotate_left
      ·simp only [Act.put, List.setIfInBounds_toArray, List.set_cons_zero, List.set_cons_succ, i64_w, i32_w]
       rfl
      refine pure_ (i := 5) (N := some 60) (v := ?_) (a' := ?_) #[true, true, true, true, true, true, false, true, true, false, false, false, false, false, false] rfl rfl (any_of HT_.out (by kernel_rfl)) (fun _ _ _ h => h) (Or.inl ⟨by rfl, ?_⟩) ?_ ?_
      rotate_left
      ·intro w'
       go_simp
       with_reducible rfl
      rotate_left
      ·simp only [Act.put, List.setIfInBounds_toArray, List.set_cons_zero, List.set_cons_succ, i64_w, i32_w]
       rfl
      refine take_ (i := 6) (N := some 61) (v := ?_) (a' := ?_) #[true, true, true, true, true, true, true, true, true, false, false, false, false, false, false] rfl rfl (take_ofW HT_.out HW_.out (by kernel_rfl)) (fun _ _ _ h => h) (Or.inl ⟨by rfl, ?_⟩) hHeld ?_ ?_
      rotate_left
      ·rintro w' ⟨s0, s1, s2, s3⟩
       go_simp
       with_reducible rfl
      rotate_left
      ·simp only [Act.put, List.setIfInBounds_toArray, List.set_cons_zero, List.set_cons_succ, i64_w, i32_w]
       rfl
      refine take_ (i := 9) (N := some 64) (v := ?_) (a' := ?_) #[true, true, true, true, true, true, true, true, true, true, false, false, false, false, false] rfl rfl (take_ofW HT_.out HW_.out (by kernel_rfl)) (fun _ _ _ h => h) (Or.inl ⟨by rfl, ?_⟩) hHeld ?_ ?_
      rotate_left
      ·rintro w' ⟨s0, s1, s2, s3⟩
       go_simp
       with_reducible rfl
      rotate_left
      ·simp only [Act.put, List.setIfInBounds_toArray, List.set_cons_zero, List.set_cons_succ, i64_w, i32_w]
       rfl
      refine pure_ (i := 10) (N := some 65) (v := ?_) (a' := ?_) #[true, true, true, true, true, true, true, true, true, true, true, false, false, false, false] rfl rfl (any_of HT_.out (by kernel_rfl)) (fun _ _ _ h => h) (Or.inl ⟨by rfl, ?_⟩) ?_ ?_
      rotate_left
      ·intro w'
       go_simp
       with_reducible rfl
      rotate_left
      ·simp only [Act.put, List.setIfInBounds_toArray, List.set_cons_zero, List.set_cons_succ, i64_w, i32_w]
       rfl
      refine pure_ (i := 11) (N := some 66) (v := ?_) (a' := ?_) #[true, true, true, true, true, true, true, true, true, true, true, true, false, false, false] rfl rfl (any_of HT_.out (by kernel_rfl)) (fun _ _ _ h => h) (Or.inl ⟨by rfl, ?_⟩) ?_ ?_
      rotate_left
      ·intro w'
       go_simp
       with_reducible rfl
      rotate_left
      ·simp only [Act.put, List.setIfInBounds_toArray, List.set_cons_zero, List.set_cons_succ, i64_w, i32_w]
       rfl
      refine pure_ (i := 12) (N := some 67) (v := ?_) (a' := ?_) #[true, true, true, true, true, true, true, true, true, true, true, true, true, false, false] rfl rfl (any_of HT_.out (by kernel_rfl)) (fun _ _ _ h => h) (Or.inl ⟨by rfl, ?_⟩) ?_ ?_
      rotate_left
      ·intro w'
       go_simp
       with_reducible rfl
      rotate_left
      ·simp only [Act.put, List.setIfInBounds_toArray, List.set_cons_zero, List.set_cons_succ, i64_w, i32_w]
       rfl
      refine pure_ (i := 13) (N := some 68) (v := ?_) (a' := ?_) #[true, true, true, true, true, true, true, true, true, true, true, true, true, true, false] rfl rfl (any_of HT_.out (by kernel_rfl)) (fun _ _ _ h => h) (Or.inl ⟨by rfl, ?_⟩) ?_ ?_
      rotate_left
      ·intro w'
       go_simp
       with_reducible rfl
      rotate_left
      ·simp only [Act.put, List.setIfInBounds_toArray, List.set_cons_zero, List.set_cons_succ, i64_w, i32_w]
       rfl
      refine last_ (i := 14) (N := none) #[true, true, true, true, true, true, true, true, true, true, true, true, true, true, true] rfl rfl (one_of HT_.out (by kernel_rfl)) (by decide) (fun K hK => ?_)
      refine skip_ (w1 := ?_) (by rfl) rfl ?_ ?_
      rotate_left
      ·go_simp
       rfl
      refine hK.out _ _ ?_
      clear hK K
      refine done_ (done_of HT_.out (by kernel_rfl)) ?_
      go_upto_region 12 with (fail)
      go_cut [12] (fun v12 wc => ∃ (kq : Nat) (x12_31 : Bool), v12 = .bool x12_31 ∧ Aside0 (stillagelaw01_CrcTells.j2 kq l0 l2 (IntKind.u64.wrap (wrap64 (8 * (l0.length : Int)))) t113 y122 0 x12_31 0 a1_0 a1_1 a1_2 (wrap64 (Int.tmod (IntKind.u64.wrap a1_0) (IntKind.u64.wrap (wrap64 (8 * (l0.length : Int)))))) x121001_2 x121002_2 = some r) ∧ Aside0 (kq ≤ k2) ∧ Aside0 (Kd.R (Kd.int .u8) 5 wc w.heap.size (fun _ => True) (.slice (some ⟨go31, 0, none⟩) x9_2.length co39) y122) ∧ Aside0 (wc.heap[gb110]? = some (.cells #[.int .i64 a1_0, .int .i64 a1_1, .int .i64 a1_2] 44 (0, 0))) ∧ Aside0 (wc.heap[gb120]? = some (.cells #[.int .i64 (wrap64 (Int.tmod (IntKind.u64.wrap a1_0) (IntKind.u64.wrap (wrap64 (8 * (l0.length : Int)))))), .int .i64 x121001_2, .int .i64 x121002_2] 44 (0, 0))) ∧ Aside0 (Below w.heap.size w wc))
      case first =>
       have H := HC32.out
       clear HC32
       have c41 : ¬ (0 : Int) = 1 := by decide
       rw [if_neg (by decide)] at H
       have c41b0 : ((0 : Int) == 1) = false := beq_eq_false_iff_ne.mpr c41
       have c41b1 : ((0 : Int) != 1) = true := bne_iff_ne.mpr c41
       (first | rw [c41b0] | (simp only [i64_w, i32_w]; rw [c41b0]) | skip)
       have H' := Aside0.mk H
       clear H
       go_wp2
       go_meet
       case rel => exact ⟨_, (true), (by first | rfl | (simp; done) | (simp [*]; done)), H', ⟨by have := HJ3.out; have := HK2.out; first | omega | exact Nat.le_refl _⟩, ⟨by (with_reducible repeat (first | apply Kd.R_alloc | apply Kd.R_drewN | apply Kd.R_drew)); exact HQ40.out⟩, ⟨by (with_reducible repeat (first | refine blk_drewN ?_ _ | refine blk_drew ?_ | refine blk_alloc ?_ _)); refine blk_far ?_ (by have h_ := Kd.R_ne HO_9.out BK110.out (by decide); intro e_; exact h_ (by rw [e_]; rfl)) _; (with_reducible repeat (first | refine blk_drewN ?_ _ | refine blk_drew ?_ | refine blk_alloc ?_ _)); exact BK110.out⟩, ⟨by (with_reducible repeat (first | refine blk_drewN ?_ _ | refine blk_drew ?_ | refine blk_alloc ?_ _)); refine blk_far ?_ (by have h_ := Kd.R_ne HO_9.out BK120.out (by decide); intro e_; exact h_ (by rw [e_]; rfl)) _; (with_reducible repeat (first | refine blk_drewN ?_ _ | refine blk_drew ?_ | refine blk_alloc ?_ _)); exact BK120.out⟩, ⟨by repeat (first | (with_reducible first | exact HB.out | apply below_alloc | apply pw_below_drewN | apply below_drew1 | refine below_set ?_ GB31.out | refine below_set ?_ GE110.out | refine below_set ?_ GE120.out) | exact HB.out)⟩⟩
      case rest =>
       clear HC32
       obtain ⟨kq, x12_31, rfl, HA, HJ31, HO_9, BK110, BK120, HB⟩ := hcut
       have hl9_31 := (Kd.R_reads' HO_9.out).1
       rw [hl9_31] at HO_9
       (try simp only [hl9_31])
       (try simp only [hl9_31] at BK110)
       (try simp only [hl9_31] at BK120)
       cases kq with
       | zero => exact absurd HA.out (by simp [stillagelaw01_CrcTells.j2])
       | succ kj31 =>
        have H := HA.out
        clear HA
        simp only [stillagelaw01_CrcTells.j2] at H
        have HC44 := Aside0.mk H
        clear H
        go_upto_region 13 with (fail)
        go_cut [100] (fun v100 wc => ∃ (kq : Nat) (x100_43 : Bool), v100 = .bool x100_43 ∧ Aside0 (stillagelaw01_CrcTells.j3 kq l0 l2 (IntKind.u64.wrap (wrap64 (8 * (l0.length : Int)))) t113 y122 0 x12_31 0 x100_43 a1_0 a1_1 a1_2 (wrap64 (Int.tmod (IntKind.u64.wrap a1_0) (IntKind.u64.wrap (wrap64 (8 * (l0.length : Int)))))) x121001_2 x121002_2 = some r) ∧ Aside0 (kq ≤ kj31) ∧ Aside0 (Kd.R (Kd.int .u8) 5 wc w.heap.size (fun _ => True) (.slice (some ⟨go31, 0, none⟩) y122.length co39) y122) ∧ Aside0 (wc.heap[gb110]? = some (.cells #[.int .i64 a1_0, .int .i64 a1_1, .int .i64 a1_2] 44 (0, 0))) ∧ Aside0 (wc.heap[gb120]? = some (.cells #[.int .i64 (wrap64 (Int.tmod (IntKind.u64.wrap a1_0) (IntKind.u64.wrap (wrap64 (8 * (l0.length : Int)))))), .int .i64 x121001_2, .int .i64 x121002_2] 44 (0, 0))) ∧ Aside0 (Below w.heap.size w wc))
        case first =>
         have H := HC44.out
         clear HC44
         have c45 : ¬ (0 : Int) = 2 := by decide
         rw [if_neg (by decide)] at H
         have c45b0 : ((0 : Int) == 2) = false := beq_eq_false_iff_ne.mpr c45
         have c45b1 : ((0 : Int) != 2) = true := bne_iff_ne.mpr c45
         (first | rw [c45b0] | (simp only [i64_w, i32_w]; rw [c45b0]) | skip)
         have H' := Aside0.mk H
         clear H
         go_wp2
         go_meet
         case rel => exact ⟨_, (false), (by first | rfl | (simp; done) | (simp [*]; done)), H', ⟨by have := HJ3.out; have := HK2.out; have := HJ31.out; first | omega | exact Nat.le_refl _⟩, ⟨by (try simp only [hl9_31]); (with_reducible repeat (first | apply Kd.R_alloc | apply Kd.R_drewN | apply Kd.R_drew)); exact HO_9.out⟩, ⟨by (try simp only [hl9_31]); (with_reducible repeat (first | refine blk_drewN ?_ _ | refine blk_drew ?_ | refine blk_alloc ?_ _)); exact BK110.out⟩, ⟨by (try simp only [hl9_31]); (with_reducible repeat (first | refine blk_drewN ?_ _ | refine blk_drew ?_ | refine blk_alloc ?_ _)); exact BK120.out⟩, ⟨by repeat (first | (with_reducible first | exact HB.out | apply below_alloc | apply pw_below_drewN | apply below_drew1 | refine below_set ?_ GE110.out | refine below_set ?_ GE120.out) | exact HB.out)⟩⟩
        case rest =>
         clear HC44
         obtain ⟨kq, x100_43, rfl, HA, HJ43, HO_9, BK110, BK120, HB⟩ := hcut
         cases kq with
         | zero => exact absurd HA.out (by simp [stillagelaw01_CrcTells.j3])
         | succ kj43 =>
          have H := HA.out
          clear HA
          simp only [stillagelaw01_CrcTells.j3] at H
          have HC54 := Aside0.mk H
          clear H
          go_upto_if 100 with (fail)
          go_cut [12] (fun v12 wc => ∃ (kq : Nat) (x12_53 : Bool), v12 = .bool x12_53 ∧ Aside0 (stillagelaw01_CrcTells.j4 kq l0 l2 (IntKind.u64.wrap (wrap64 (8 * (l0.length : Int)))) t113 y122 0 x12_53 0 a1_0 a1_1 a1_2 (wrap64 (Int.tmod (IntKind.u64.wrap a1_0) (IntKind.u64.wrap (wrap64 (8 * (l0.length : Int)))))) x121001_2 x121002_2 = some r) ∧ Aside0 (kq ≤ kj43) ∧ Aside0 (Kd.R (Kd.int .u8) 5 wc w.heap.size (fun _ => True) (.slice (some ⟨go31, 0, none⟩) y122.length co39) y122) ∧ Aside0 (wc.heap[gb110]? = some (.cells #[.int .i64 a1_0, .int .i64 a1_1, .int .i64 a1_2] 44 (0, 0))) ∧ Aside0 (wc.heap[gb120]? = some (.cells #[.int .i64 (wrap64 (Int.tmod (IntKind.u64.wrap a1_0) (IntKind.u64.wrap (wrap64 (8 * (l0.length : Int)))))), .int .i64 x121001_2, .int .i64 x121002_2] 44 (0, 0))) ∧ Aside0 (Below w.heap.size w wc))
          case first =>
           have H := HC54.out
           clear HC54
           by_cases c55 : x100_43 = true
           ·subst c55
            have H1 : (stillagelaw01_CrcTells.j4 kj43 l0 l2 (IntKind.u64.wrap (wrap64 (8 * (l0.length : Int)))) t113 y122 0 true 0 a1_0 a1_1 a1_2 (wrap64 (Int.tmod (IntKind.u64.wrap a1_0) (IntKind.u64.wrap (wrap64 (8 * (l0.length : Int)))))) x121001_2 x121002_2) = some r := by rw [if_pos rfl] at H; exact H
            clear H
            have H := H1
            clear H1
            have H' := Aside0.mk H
            clear H
            go_wp2
            go_meet
            case rel => exact ⟨_, (true), (by first | rfl | (simp; done) | (simp [*]; done)), H', ⟨by have := HJ3.out; have := HK2.out; have := HJ31.out; have := HJ43.out; first | omega | exact Nat.le_refl _⟩, ⟨by (try simp only [hl9_31]); (with_reducible repeat (first | apply Kd.R_alloc | apply Kd.R_drewN | apply Kd.R_drew)); exact HO_9.out⟩, ⟨by (try simp only [hl9_31]); (with_reducible repeat (first | refine blk_drewN ?_ _ | refine blk_drew ?_ | refine blk_alloc ?_ _)); exact BK110.out⟩, ⟨by (try simp only [hl9_31]); (with_reducible repeat (first | refine blk_drewN ?_ _ | refine blk_drew ?_ | refine blk_alloc ?_ _)); exact BK120.out⟩, ⟨by repeat (first | (with_reducible first | exact HB.out | apply below_alloc | apply pw_below_drewN | apply below_drew1 | refine below_set ?_ GE110.out | refine below_set ?_ GE120.out) | exact HB.out)⟩⟩
           replace c55 := Bool.eq_false_iff.mpr c55
           subst c55
           have H1 : (stillagelaw01_CrcTells.j4 kj43 l0 l2 (IntKind.u64.wrap (wrap64 (8 * (l0.length : Int)))) t113 y122 0 x12_31 0 a1_0 a1_1 a1_2 (wrap64 (Int.tmod (IntKind.u64.wrap a1_0) (IntKind.u64.wrap (wrap64 (8 * (l0.length : Int)))))) x121001_2 x121002_2) = some r := by rw [if_neg (show ¬ (false = true) by decide)] at H; exact H
           clear H
           have H := H1
           clear H1
           have H' := Aside0.mk H
           clear H
           go_wp2
           go_meet
           case rel => exact ⟨_, (x12_31), (by first | rfl | (simp; done) | (simp [*]; done)), H', ⟨by have := HJ3.out; have := HK2.out; have := HJ31.out; have := HJ43.out; first | omega | exact Nat.le_refl _⟩, ⟨by (try simp only [hl9_31]); (with_reducible repeat (first | apply Kd.R_alloc | apply Kd.R_drewN | apply Kd.R_drew)); exact HO_9.out⟩, ⟨by (try simp only [hl9_31]); (with_reducible repeat (first | refine blk_drewN ?_ _ | refine blk_drew ?_ | refine blk_alloc ?_ _)); exact BK110.out⟩, ⟨by (try simp only [hl9_31]); (with_reducible repeat (first | refine blk_drewN ?_ _ | refine blk_drew ?_ | refine blk_alloc ?_ _)); exact BK120.out⟩, ⟨by repeat (first | (with_reducible first | exact HB.out | apply below_alloc | apply pw_below_drewN | apply below_drew1 | refine below_set ?_ GE110.out | refine below_set ?_ GE120.out) | exact HB.out)⟩⟩
          case rest =>
           clear HC54
           obtain ⟨kq, x12_53, rfl, HA, HJ53, HO_9, BK110, BK120, HB⟩ := hcut
           cases kq with
           | zero => exact absurd HA.out (by simp [stillagelaw01_CrcTells.j4])
           | succ kj53 =>
            have H := HA.out
            clear HA
            simp only [stillagelaw01_CrcTells.j4] at H
            replace H := Option.bind_eq_some_iff.mp H
            obtain ⟨t123, A560, H⟩ := H
            replace H : (if ((t123 != t113) != x12_53) = true then (some false) else (if 0 = 0 then ((crc_Find.f kj53 y122 t113).bind fun bt124 => (if bt124.2 = 0 then (if bt124.1 = (wrap64 (Int.tmod (IntKind.u64.wrap a1_0) (IntKind.u64.wrap (wrap64 (8 * (l0.length : Int)))))) then (stillagelaw01_CrcTells.l0 kj53 l0 l2 (IntKind.u64.wrap (wrap64 (8 * (l0.length : Int)))) t113 y122 (wrap64 (0 + 1)) a1_0 a1_1 a1_2 (wrap64 (Int.tmod (IntKind.u64.wrap a1_0) (IntKind.u64.wrap (wrap64 (8 * (l0.length : Int)))))) x121001_2 x121002_2) else (some false)) else (some false))) else (stillagelaw01_CrcTells.l0 kj53 l0 l2 (IntKind.u64.wrap (wrap64 (8 * (l0.length : Int)))) t113 y122 (wrap64 (0 + 1)) a1_0 a1_1 a1_2 (wrap64 (Int.tmod (IntKind.u64.wrap a1_0) (IntKind.u64.wrap (wrap64 (8 * (l0.length : Int)))))) x121001_2 x121002_2))) = some r := H
            have A56 := Aside0.mk A560
            clear A560
            by_cases c57 : ((t123 != t113) != x12_53) = true
            ·rw [if_pos c57] at H
             have c57b0 : ((t123 != t113) != x12_53) = true := c57
             (try (have c57b1 : decide ((t123 != t113) = x12_53) = false := by simpa using c57))
             (try (have c57b2 : ((t123 != t113) == x12_53) = false := by simpa using c57))
             (try (have c57b3 : ¬ ((t123 != t113) = x12_53) := by simpa using c57))
             clear c57
             obtain rfl := Option.some.inj H
             go_wp2_with (first | ((with_reducible refine gate_callee (f := 14) rfl ?_); refine goesL_ (some 102) rfl rfl Try.func14 (by kernel_rfl) rfl #[.slice (some ⟨go31, 0, none⟩) y122.length co39] rfl (by (try simp only [List.map_toArray, List.map_cons, List.map_nil]); first | done | rfl | (simp only [List.length_drop, List.length_take]; rfl)) ?_; (with_reducible refine (crc_Sum.calls kj53 _ _ y122 t123 _ ?side1 ?side2 A56.out).mono ?_); (case side1 => repeat (first | exact (Kd.R_reads' HO_9.out).2.2 | (with_reducible refine Kd.C_alloc ?_ _) | (with_reducible refine Kd.C_drewN ?_ _) | (with_reducible refine Kd.C_drew ?_))); (case side2 => exact (Kd.R_reads' HO_9.out).2.1); rintro e w' ⟨rfl, ⟨nd, rfl⟩⟩; refine ⟨_, rfl, ?_⟩))
             go_ret
             exact ⟨by first | rfl | (simp [errW_none, errW_some] <;> rfl) | (simp only [← hji25, ← hji28, ← hji30]; first | rfl | (simp [errW_none, errW_some] <;> rfl)) | (simp [*, errW_none, errW_some] <;> rfl), by repeat (first | (with_reducible first | exact HB.out | apply below_alloc | apply pw_below_drewN | apply below_drew1 | refine below_set ?_ GE110.out | refine below_set ?_ GE120.out) | exact HB.out)⟩
            rw [if_neg c57] at H
            have c57b0 : ((t123 != t113) != x12_53) = false := by simpa using c57
            (try (have c57b1 : decide ((t123 != t113) = x12_53) = true := by simpa using c57))
            (try (have c57b2 : ((t123 != t113) == x12_53) = true := by simpa using c57))
            clear c57
            have c58 : (0 : Int) = 0 := by decide
            rw [if_pos (by decide)] at H
            have c58b0 : ((0 : Int) == 0) = true := beq_iff_eq.mpr c58
            have c58b1 : ((0 : Int) != 0) = false := bne_eq_false_iff_eq.mpr c58
            clear c58
            replace H := Option.bind_eq_some_iff.mp H
            obtain ⟨⟨t124, t125⟩, A590, H⟩ := H
            replace H : (if t125 = 0 then (if t124 = (wrap64 (Int.tmod (IntKind.u64.wrap a1_0) (IntKind.u64.wrap (wrap64 (8 * (l0.length : Int)))))) then (stillagelaw01_CrcTells.l0 kj53 l0 l2 (IntKind.u64.wrap (wrap64 (8 * (l0.length : Int)))) t113 y122 (wrap64 (0 + 1)) a1_0 a1_1 a1_2 (wrap64 (Int.tmod (IntKind.u64.wrap a1_0) (IntKind.u64.wrap (wrap64 (8 * (l0.length : Int)))))) x121001_2 x121002_2) else (some false)) else (some false)) = some r := H
            have A59 := Aside0.mk A590
            clear A590
            by_cases c60 : t125 = 0
            rotate_left
            ·rw [if_neg c60] at H
             have c60b0 : (t125 == 0) = false := beq_eq_false_iff_ne.mpr c60
             have c60b1 : (t125 != 0) = true := bne_iff_ne.mpr c60
             obtain rfl := Option.some.inj H
             go_wp2_with (first | ((with_reducible refine gate_callee (f := 14) rfl ?_); refine goesL_ (some 102) rfl rfl Try.func14 (by kernel_rfl) rfl #[.slice (some ⟨go31, 0, none⟩) y122.length co39] rfl (by (try simp only [List.map_toArray, List.map_cons, List.map_nil]); first | done | rfl | (simp only [List.length_drop, List.length_take]; rfl)) ?_; (with_reducible refine (crc_Sum.calls kj53 _ _ y122 t123 _ ?side1 ?side2 A56.out).mono ?_); (case side1 => repeat (first | exact (Kd.R_reads' HO_9.out).2.2 | (with_reducible refine Kd.C_alloc ?_ _) | (with_reducible refine Kd.C_drewN ?_ _) | (with_reducible refine Kd.C_drew ?_))); (case side2 => exact (Kd.R_reads' HO_9.out).2.1); rintro e w' ⟨rfl, ⟨nd, rfl⟩⟩; refine ⟨_, rfl, ?_⟩) | ((with_reducible refine gate_callee (f := 20) rfl ?_); refine goesL_ (some 112) rfl rfl Try.func20 (by kernel_rfl) rfl #[.slice (some ⟨go31, 0, none⟩) y122.length co39, .int .u16 t113] rfl (by (try simp only [List.map_toArray, List.map_cons, List.map_nil]); first | done | rfl | (simp only [List.length_drop, List.length_take]; rfl)) ?_; (with_reducible refine (crc_Find.calls kj53 _ _ y122 t113 t124 t125 _ ?side1 ?side2 A59.out).mono ?_); (case side1 => repeat (first | exact (Kd.R_reads' HO_9.out).2.2 | (with_reducible refine Kd.C_alloc ?_ _) | (with_reducible refine Kd.C_drewN ?_ _) | (with_reducible refine Kd.C_drew ?_))); (case side2 => exact (Kd.R_reads' HO_9.out).2.1); rintro e w' ⟨rfl, ⟨nd, rfl⟩⟩; refine ⟨_, rfl, ?_⟩))
             go_ret
             exact ⟨by first | rfl | (simp [errW_none, errW_some] <;> rfl) | (simp only [← hji25, ← hji28, ← hji30]; first | rfl | (simp [errW_none, errW_some] <;> rfl)) | (simp [*, errW_none, errW_some] <;> rfl), by repeat (first | (with_reducible first | exact HB.out | apply below_alloc | apply pw_below_drewN | apply below_drew1 | refine below_set ?_ GE110.out | refine below_set ?_ GE120.out) | exact HB.out)⟩
            rw [if_pos c60] at H
            have c60b0 : (t125 == 0) = true := beq_iff_eq.mpr c60
            have c60b1 : (t125 != 0) = false := bne_eq_false_iff_eq.mpr c60
            clear c60
            by_cases c61 : t124 = (wrap64 (Int.tmod (IntKind.u64.wrap a1_0) (IntKind.u64.wrap (wrap64 (8 * (l0.length : Int))))))
            rotate_left
            ·rw [if_neg c61] at H
             have c61b0 : (t124 == (wrap64 (Int.tmod (IntKind.u64.wrap a1_0) (IntKind.u64.wrap (wrap64 (8 * (l0.length : Int))))))) = false := beq_eq_false_iff_ne.mpr c61
             have c61b1 : (t124 != (wrap64 (Int.tmod (IntKind.u64.wrap a1_0) (IntKind.u64.wrap (wrap64 (8 * (l0.length : Int))))))) = true := bne_iff_ne.mpr c61
             (try (have c61z0 := c61b0; simp only [hl9_31] at c61z0))
             (try (have c61z1 := c61b1; simp only [hl9_31] at c61z1))
             obtain rfl := Option.some.inj H
             go_wp2_with (first | ((with_reducible refine gate_callee (f := 14) rfl ?_); refine goesL_ (some 102) rfl rfl Try.func14 (by kernel_rfl) rfl #[.slice (some ⟨go31, 0, none⟩) y122.length co39] rfl (by (try simp only [List.map_toArray, List.map_cons, List.map_nil]); first | done | rfl | (simp only [List.length_drop, List.length_take]; rfl)) ?_; (with_reducible refine (crc_Sum.calls kj53 _ _ y122 t123 _ ?side1 ?side2 A56.out).mono ?_); (case side1 => repeat (first | exact (Kd.R_reads' HO_9.out).2.2 | (with_reducible refine Kd.C_alloc ?_ _) | (with_reducible refine Kd.C_drewN ?_ _) | (with_reducible refine Kd.C_drew ?_))); (case side2 => exact (Kd.R_reads' HO_9.out).2.1); rintro e w' ⟨rfl, ⟨nd, rfl⟩⟩; refine ⟨_, rfl, ?_⟩) | ((with_reducible refine gate_callee (f := 20) rfl ?_); refine goesL_ (some 112) rfl rfl Try.func20 (by kernel_rfl) rfl #[.slice (some ⟨go31, 0, none⟩) y122.length co39, .int .u16 t113] rfl (by (try simp only [List.map_toArray, List.map_cons, List.map_nil]); first | done | rfl | (simp only [List.length_drop, List.length_take]; rfl)) ?_; (with_reducible refine (crc_Find.calls kj53 _ _ y122 t113 t124 t125 _ ?side1 ?side2 A59.out).mono ?_); (case side1 => repeat (first | exact (Kd.R_reads' HO_9.out).2.2 | (with_reducible refine Kd.C_alloc ?_ _) | (with_reducible refine Kd.C_drewN ?_ _) | (with_reducible refine Kd.C_drew ?_))); (case side2 => exact (Kd.R_reads' HO_9.out).2.1); rintro e w' ⟨rfl, ⟨nd, rfl⟩⟩; refine ⟨_, rfl, ?_⟩; have hnb64 := NB120_110.out; have hnc64 := NB110_120.out; have hcz65_0 : wc.cell? ⟨gb120, 0, none⟩ = some (.int .i64 (wrap64 (Int.tmod (IntKind.u64.wrap a1_0) (IntKind.u64.wrap (wrap64 (8 * (l0.length : Int))))))) := (blk_cell BK120.out 0).trans rfl; have hcz65_1 : wc.cell? ⟨gb120, 1, none⟩ = some (.int .i64 x121001_2) := (blk_cell BK120.out 1).trans rfl; have hcz65_2 : wc.cell? ⟨gb120, 2, none⟩ = some (.int .i64 x121002_2) := (blk_cell BK120.out 2).trans rfl; have hfz65_0 := blk_frozen BK120.out 0; have hfz65_1 := blk_frozen BK120.out 1; have hfz65_2 := blk_frozen BK120.out 2))
             go_ret
             exact ⟨by first | rfl | (simp [errW_none, errW_some] <;> rfl) | (simp only [← hji25, ← hji28, ← hji30]; first | rfl | (simp [errW_none, errW_some] <;> rfl)) | (simp [*, errW_none, errW_some] <;> rfl), by repeat (first | (with_reducible first | exact HB.out | apply below_alloc | apply pw_below_drewN | apply below_drew1 | refine below_set ?_ GE110.out | refine below_set ?_ GE120.out) | exact HB.out)⟩
            rw [if_pos c61] at H
            have c61b0 : (t124 == (wrap64 (Int.tmod (IntKind.u64.wrap a1_0) (IntKind.u64.wrap (wrap64 (8 * (l0.length : Int))))))) = true := beq_iff_eq.mpr c61
            have c61b1 : (t124 != (wrap64 (Int.tmod (IntKind.u64.wrap a1_0) (IntKind.u64.wrap (wrap64 (8 * (l0.length : Int))))))) = false := bne_eq_false_iff_eq.mpr c61
            (try (have c61z0 := c61b0; simp only [hl9_31] at c61z0))
            (try (have c61z1 := c61b1; simp only [hl9_31] at c61z1))
            clear c61
            have H' := Aside0.mk H
            clear H
            go_wp2_with (first | ((with_reducible refine gate_callee (f := 14) rfl ?_); refine goesL_ (some 102) rfl rfl Try.func14 (by kernel_rfl) rfl #[.slice (some ⟨go31, 0, none⟩) y122.length co39] rfl (by (try simp only [List.map_toArray, List.map_cons, List.map_nil]); first | done | rfl | (simp only [List.length_drop, List.length_take]; rfl)) ?_; (with_reducible refine (crc_Sum.calls kj53 _ _ y122 t123 _ ?side1 ?side2 A56.out).mono ?_); (case side1 => repeat (first | exact (Kd.R_reads' HO_9.out).2.2 | (with_reducible refine Kd.C_alloc ?_ _) | (with_reducible refine Kd.C_drewN ?_ _) | (with_reducible refine Kd.C_drew ?_))); (case side2 => exact (Kd.R_reads' HO_9.out).2.1); rintro e w' ⟨rfl, ⟨nd, rfl⟩⟩; refine ⟨_, rfl, ?_⟩) | ((with_reducible refine gate_callee (f := 20) rfl ?_); refine goesL_ (some 112) rfl rfl Try.func20 (by kernel_rfl) rfl #[.slice (some ⟨go31, 0, none⟩) y122.length co39, .int .u16 t113] rfl (by (try simp only [List.map_toArray, List.map_cons, List.map_nil]); first | done | rfl | (simp only [List.length_drop, List.length_take]; rfl)) ?_; (with_reducible refine (crc_Find.calls kj53 _ _ y122 t113 t124 t125 _ ?side1 ?side2 A59.out).mono ?_); (case side1 => repeat (first | exact (Kd.R_reads' HO_9.out).2.2 | (with_reducible refine Kd.C_alloc ?_ _) | (with_reducible refine Kd.C_drewN ?_ _) | (with_reducible refine Kd.C_drew ?_))); (case side2 => exact (Kd.R_reads' HO_9.out).2.1); rintro e w' ⟨rfl, ⟨nd, rfl⟩⟩; refine ⟨_, rfl, ?_⟩; have hnb62 := NB120_110.out; have hnc62 := NB110_120.out; have hcz63_0 : wc.cell? ⟨gb120, 0, none⟩ = some (.int .i64 (wrap64 (Int.tmod (IntKind.u64.wrap a1_0) (IntKind.u64.wrap (wrap64 (8 * (l0.length : Int))))))) := (blk_cell BK120.out 0).trans rfl; have hcz63_1 : wc.cell? ⟨gb120, 1, none⟩ = some (.int .i64 x121001_2) := (blk_cell BK120.out 1).trans rfl; have hcz63_2 : wc.cell? ⟨gb120, 2, none⟩ = some (.int .i64 x121002_2) := (blk_cell BK120.out 2).trans rfl; have hfz63_0 := blk_frozen BK120.out 0; have hfz63_1 := blk_frozen BK120.out 1; have hfz63_2 := blk_frozen BK120.out 2))
            (try simp only [← hl9_31])
            go_roundg kj53
            case measure => have := HJ3.out; have := HK2.out; have := HJ31.out; have := HJ43.out; have := HJ53.out; omega
            case rel => exact ⟨(y122), (wrap64 (0 + 1)), ((wrap64 (Int.tmod (IntKind.u64.wrap a1_0) (IntKind.u64.wrap (wrap64 (8 * (l0.length : Int))))))), (x121001_2), (x121002_2), (by first | rfl | (simp; done) | (simp [*]; done) | (simp; unfold wrap64; omega)), H', ⟨by have := HJ3.out; have := HK2.out; have := HJ31.out; have := HJ43.out; have := HJ53.out; omega⟩, ⟨by (try simp only [hl9_31]); (with_reducible repeat (first | apply Kd.R_alloc | apply Kd.R_drewN | apply Kd.R_drew)); exact HO_9.out⟩, ⟨by (try simp only [hl9_31]); (with_reducible repeat (first | refine blk_drewN ?_ _ | refine blk_drew ?_ | refine blk_alloc ?_ _)); exact BK110.out⟩, ⟨by (try simp only [hl9_31]); (with_reducible repeat (first | refine blk_drewN ?_ _ | refine blk_drew ?_ | refine blk_alloc ?_ _)); exact BK120.out⟩, ⟨by repeat (first | (with_reducible first | exact HB.out | apply below_alloc | apply pw_below_drewN | apply below_drew1 | refine below_set ?_ GE110.out | refine below_set ?_ GE120.out) | exact HB.out)⟩⟩
     rw [if_neg c24] at H
     by_cases c66 : x43_2 = 1
     ·subst c66
      have H1 : (if 0 ≤ (wrap64 (Int.tdiv (wrap64 (Int.tmod (IntKind.u64.wrap a1_1) (IntKind.u64.wrap (wrap64 (8 * (l0.length : Int)))))) 8)) then (if (wrap64 (Int.tdiv (wrap64 (Int.tmod (IntKind.u64.wrap a1_1) (IntKind.u64.wrap (wrap64 (8 * (l0.length : Int)))))) 8)) < (x9_2.length : Int) then (if 0 ≤ (Int.tmod (wrap64 (Int.tmod (IntKind.u64.wrap a1_1) (IntKind.u64.wrap (wrap64 (8 * (l0.length : Int)))))) 8) then ((some (x9_2.set ((wrap64 (Int.tdiv (wrap64 (Int.tmod (IntKind.u64.wrap a1_1) (IntKind.u64.wrap (wrap64 (8 * (l0.length : Int)))))) 8)) : Int).toNat (Go.bits .xor .u8 (rd x9_2 (wrap64 (Int.tdiv (wrap64 (Int.tmod (IntKind.u64.wrap a1_1) (IntKind.u64.wrap (wrap64 (8 * (l0.length : Int)))))) 8))) (shr .u8 128 (Int.tmod (wrap64 (Int.tmod (IntKind.u64.wrap a1_1) (IntKind.u64.wrap (wrap64 (8 * (l0.length : Int)))))) 8))) : List Int)).bind fun y127 => (if 1 = 1 then (stillagelaw01_CrcTells.j5 k2 l0 l2 (IntKind.u64.wrap (wrap64 (8 * (l0.length : Int)))) t113 y127 1 (x121000_2 != (wrap64 (Int.tmod (IntKind.u64.wrap a1_1) (IntKind.u64.wrap (wrap64 (8 * (l0.length : Int))))))) 1 a1_0 a1_1 a1_2 x121000_2 (wrap64 (Int.tmod (IntKind.u64.wrap a1_1) (IntKind.u64.wrap (wrap64 (8 * (l0.length : Int)))))) x121002_2) else (stillagelaw01_CrcTells.j5 k2 l0 l2 (IntKind.u64.wrap (wrap64 (8 * (l0.length : Int)))) t113 y127 1 true 1 a1_0 a1_1 a1_2 x121000_2 (wrap64 (Int.tmod (IntKind.u64.wrap a1_1) (IntKind.u64.wrap (wrap64 (8 * (l0.length : Int)))))) x121002_2))) else (none)) else (none)) else (none)) = some r := by rw [if_pos rfl] at H; exact H
      clear H
      have H := H1
      clear H1
      obtain ⟨ji67, hji67⟩ : ∃ j_ : Int, (wrap64 (Int.tdiv (wrap64 (Int.tmod (IntKind.u64.wrap a1_1) (IntKind.u64.wrap (wrap64 (8 * (l0.length : Int)))))) 8)) = j_ := ⟨_, rfl⟩
      replace H : (if 0 ≤ (ji67) then (if (ji67) < (x9_2.length : Int) then (if 0 ≤ (Int.tmod (wrap64 (Int.tmod (IntKind.u64.wrap a1_1) (IntKind.u64.wrap (wrap64 (8 * (l0.length : Int)))))) 8) then ((some (x9_2.set ((ji67) : Int).toNat (Go.bits .xor .u8 (rd x9_2 (ji67)) (shr .u8 128 (Int.tmod (wrap64 (Int.tmod (IntKind.u64.wrap a1_1) (IntKind.u64.wrap (wrap64 (8 * (l0.length : Int)))))) 8))) : List Int)).bind fun y127 => (if 1 = 1 then (stillagelaw01_CrcTells.j5 k2 l0 l2 (IntKind.u64.wrap (wrap64 (8 * (l0.length : Int)))) t113 y127 1 (x121000_2 != (wrap64 (Int.tmod (IntKind.u64.wrap a1_1) (IntKind.u64.wrap (wrap64 (8 * (l0.length : Int))))))) 1 a1_0 a1_1 a1_2 x121000_2 (wrap64 (Int.tmod (IntKind.u64.wrap a1_1) (IntKind.u64.wrap (wrap64 (8 * (l0.length : Int)))))) x121002_2) else (stillagelaw01_CrcTells.j5 k2 l0 l2 (IntKind.u64.wrap (wrap64 (8 * (l0.length : Int)))) t113 y127 1 true 1 a1_0 a1_1 a1_2 x121000_2 (wrap64 (Int.tmod (IntKind.u64.wrap a1_1) (IntKind.u64.wrap (wrap64 (8 * (l0.length : Int)))))) x121002_2))) else (none)) else (none)) else (none)) = some r := by first | (rw [hji67] at H; exact H) | (simp only [hji67] at H ⊢; exact H)
      have hji67w : (IntKind.i64.wrap (Int.tdiv (wrap64 (Int.tmod (IntKind.u64.wrap a1_1) (IntKind.u64.wrap (wrap64 (8 * (l0.length : Int)))))) 8)) = ji67 := (i64_w _).trans hji67
      by_cases c68 : 0 ≤ (ji67)
      rotate_left
      ·rw [if_neg c68] at H
       exact absurd H (by simp)
      rw [if_pos c68] at H
      have c68b0 : decide (0 ≤ (ji67)) = true := decide_eq_true c68
      clear c68
      by_cases c69 : (ji67) < (x9_2.length : Int)
      rotate_left
      ·rw [if_neg c69] at H
       exact absurd H (by simp)
      rw [if_pos c69] at H
      have c69b0 : decide ((ji67) < (x9_2.length : Int)) = true := decide_eq_true c69
      clear c69
      obtain ⟨ji70, hji70⟩ : ∃ j_ : Int, (Int.tmod (wrap64 (Int.tmod (IntKind.u64.wrap a1_1) (IntKind.u64.wrap (wrap64 (8 * (l0.length : Int)))))) 8) = j_ := ⟨_, rfl⟩
      replace H : (if 0 ≤ (ji70) then ((some (x9_2.set ((ji67) : Int).toNat (Go.bits .xor .u8 (rd x9_2 (ji67)) (shr .u8 128 (ji70))) : List Int)).bind fun y127 => (if 1 = 1 then (stillagelaw01_CrcTells.j5 k2 l0 l2 (IntKind.u64.wrap (wrap64 (8 * (l0.length : Int)))) t113 y127 1 (x121000_2 != (wrap64 (Int.tmod (IntKind.u64.wrap a1_1) (IntKind.u64.wrap (wrap64 (8 * (l0.length : Int))))))) 1 a1_0 a1_1 a1_2 x121000_2 (wrap64 (Int.tmod (IntKind.u64.wrap a1_1) (IntKind.u64.wrap (wrap64 (8 * (l0.length : Int)))))) x121002_2) else (stillagelaw01_CrcTells.j5 k2 l0 l2 (IntKind.u64.wrap (wrap64 (8 * (l0.length : Int)))) t113 y127 1 true 1 a1_0 a1_1 a1_2 x121000_2 (wrap64 (Int.tmod (IntKind.u64.wrap a1_1) (IntKind.u64.wrap (wrap64 (8 * (l0.length : Int)))))) x121002_2))) else (none)) = some r := by first | (rw [hji70] at H; exact H) | (simp only [hji70] at H ⊢; exact H)
      by_cases c71 : 0 ≤ (ji70)
      rotate_left
      ·rw [if_neg c71] at H
       exact absurd H (by simp)
      rw [if_pos c71] at H
      have c71b0 := eq_true c71
      have c71b1 : decide (0 ≤ (ji70)) = true := decide_eq_true c71
      clear c71
      obtain ⟨ji72, hji72⟩ : ∃ j_ : Int, (shr .u8 128 (ji70)) = j_ := ⟨_, rfl⟩
      replace H : ((some (x9_2.set ((ji67) : Int).toNat (Go.bits .xor .u8 (rd x9_2 (ji67)) (ji72)) : List Int)).bind fun y127 => (if 1 = 1 then (stillagelaw01_CrcTells.j5 k2 l0 l2 (IntKind.u64.wrap (wrap64 (8 * (l0.length : Int)))) t113 y127 1 (x121000_2 != (wrap64 (Int.tmod (IntKind.u64.wrap a1_1) (IntKind.u64.wrap (wrap64 (8 * (l0.length : Int))))))) 1 a1_0 a1_1 a1_2 x121000_2 (wrap64 (Int.tmod (IntKind.u64.wrap a1_1) (IntKind.u64.wrap (wrap64 (8 * (l0.length : Int)))))) x121002_2) else (stillagelaw01_CrcTells.j5 k2 l0 l2 (IntKind.u64.wrap (wrap64 (8 * (l0.length : Int)))) t113 y127 1 true 1 a1_0 a1_1 a1_2 x121000_2 (wrap64 (Int.tmod (IntKind.u64.wrap a1_1) (IntKind.u64.wrap (wrap64 (8 * (l0.length : Int)))))) x121002_2))) = some r := by first | (rw [hji72] at H; exact H) | (simp only [hji72] at H ⊢; exact H)
      have hji72_ : (128 / 2 ^ min (ji70).toNat 8) = ji72 := hji72
      have hji72z : (ji70) ≤ 8 → (128 / 2 ^ (ji70).toNat) = ji72 := shr_small hji72
      obtain ⟨y127, hy127⟩ : ∃ y_ : List Int, y_ = (x9_2.set ((ji67) : Int).toNat (Go.bits .xor .u8 (rd x9_2 (ji67)) (ji72))) := ⟨_, rfl⟩
      replace H : (if 1 = 1 then (stillagelaw01_CrcTells.j5 k2 l0 l2 (IntKind.u64.wrap (wrap64 (8 * (l0.length : Int)))) t113 y127 1 (x121000_2 != (wrap64 (Int.tmod (IntKind.u64.wrap a1_1) (IntKind.u64.wrap (wrap64 (8 * (l0.length : Int))))))) 1 a1_0 a1_1 a1_2 x121000_2 (wrap64 (Int.tmod (IntKind.u64.wrap a1_1) (IntKind.u64.wrap (wrap64 (8 * (l0.length : Int)))))) x121002_2) else (stillagelaw01_CrcTells.j5 k2 l0 l2 (IntKind.u64.wrap (wrap64 (8 * (l0.length : Int)))) t113 y127 1 true 1 a1_0 a1_1 a1_2 x121000_2 (wrap64 (Int.tmod (IntKind.u64.wrap a1_1) (IntKind.u64.wrap (wrap64 (8 * (l0.length : Int)))))) x121002_2)) = some r := by first | (rw [hy127]; with_reducible exact H) | (have H2_ := (Option.bind_some _ _).symm.trans H; rw [hy127]; with_reducible exact H2_) | (have H2_ := (Option.bind_some _ _).symm.trans H; with_reducible exact H2_) | with_reducible exact H | (rw [hy127]; exact H) | exact H
      have Ny127 := Aside0.mk hy127
      clear hy127
      have HC74 := Aside0.mk H
      clear H
      have hnb75 := NB110_120.out
      have hnc75 := NB120_110.out
      have hcz76_0 : wr.cell? ⟨gb110, 0, none⟩ = some (.int .i64 a1_0) := (blk_cell BK110.out 0).trans rfl
      have hcz76_1 : wr.cell? ⟨gb110, 1, none⟩ = some (.int .i64 a1_1) := (blk_cell BK110.out 1).trans rfl
      have hcz76_2 : wr.cell? ⟨gb110, 2, none⟩ = some (.int .i64 a1_2) := (blk_cell BK110.out 2).trans rfl
      have hfz76_0 := blk_frozen BK110.out 0
      have hfz76_1 := blk_frozen BK110.out 1
      have hfz76_2 := blk_frozen BK110.out 2
      have hcz78_0 : wr.cell? ⟨gb120, 0, none⟩ = some (.int .i64 x121000_2) := (blk_cell BK120.out 0).trans rfl
      have hcz78_1 : wr.cell? ⟨gb120, 1, none⟩ = some (.int .i64 x121001_2) := (blk_cell BK120.out 1).trans rfl
      have hcz78_2 : wr.cell? ⟨gb120, 2, none⟩ = some (.int .i64 x121002_2) := (blk_cell BK120.out 2).trans rfl
      have hfz78_0 := blk_frozen BK120.out 0
      have hfz78_1 := blk_frozen BK120.out 1
      have hfz78_2 := blk_frozen BK120.out 2
      try go_wp2
      have n0_ : Aside0 (Kd.R (Kd.int .u8) 5 (wr.setCell ⟨gb120, 1, none⟩ (.int .i64 (wrap64 (Int.tmod (IntKind.u64.wrap a1_1) (IntKind.u64.wrap (wrap64 (8 * (l0.length : Int)))))))) w.heap.size (fun _ => True) v118 x9_2) := ⟨by (with_reducible repeat (first | apply Kd.R_alloc | apply Kd.R_drewN | apply Kd.R_drew)); exact Kd.R_mono (Kd.R_far (p := ⟨gb120, 1, none⟩) (Kd.R_types HO_9.out BK120.out (by decide)) (fun _ hk => hk.2) (.int .i64 (wrap64 (Int.tmod (IntKind.u64.wrap a1_1) (IntKind.u64.wrap (wrap64 (8 * (l0.length : Int)))))))) (fun _ hk => trivial)⟩
      have n1_ : Aside0 ((wr.setCell ⟨gb120, 1, none⟩ (.int .i64 (wrap64 (Int.tmod (IntKind.u64.wrap a1_1) (IntKind.u64.wrap (wrap64 (8 * (l0.length : Int)))))))).heap[gb110]? = some (.cells #[.int .i64 a1_0, .int .i64 a1_1, .int .i64 a1_2] 44 (0, 0))) := ⟨by (with_reducible repeat (first | refine blk_drewN ?_ _ | refine blk_drew ?_ | refine blk_alloc ?_ _)); refine blk_far ?_ NB110_120.out _; (with_reducible repeat (first | refine blk_drewN ?_ _ | refine blk_drew ?_ | refine blk_alloc ?_ _)); exact BK110.out⟩
      have n2_ : Aside0 ((wr.setCell ⟨gb120, 1, none⟩ (.int .i64 (wrap64 (Int.tmod (IntKind.u64.wrap a1_1) (IntKind.u64.wrap (wrap64 (8 * (l0.length : Int)))))))).heap[gb120]? = some (.cells #[.int .i64 x121000_2, .int .i64 (wrap64 (Int.tmod (IntKind.u64.wrap a1_1) (IntKind.u64.wrap (wrap64 (8 * (l0.length : Int)))))), .int .i64 x121002_2] 44 (0, 0))) := ⟨by (with_reducible repeat (first | refine blk_drewN ?_ _ | refine blk_drew ?_ | refine blk_alloc ?_ _)); refine blk_put (cs := #[.int .i64 x121000_2, .int .i64 x121001_2, .int .i64 x121002_2]) ?_ 1 _ rfl; (with_reducible repeat (first | refine blk_drewN ?_ _ | refine blk_drew ?_ | refine blk_alloc ?_ _)); exact BK120.out⟩
      have n3_ : Aside0 (Below w.heap.size w (wr.setCell ⟨gb120, 1, none⟩ (.int .i64 (wrap64 (Int.tmod (IntKind.u64.wrap a1_1) (IntKind.u64.wrap (wrap64 (8 * (l0.length : Int))))))))) := ⟨by repeat (first | (with_reducible first | exact HB.out | apply below_alloc | apply pw_below_drewN | apply below_drew1 | refine below_set ?_ GE110.out | refine below_set ?_ GE120.out) | exact HB.out)⟩
      generalize (wr.setCell ⟨gb120, 1, none⟩ (.int .i64 (wrap64 (Int.tmod (IntKind.u64.wrap a1_1) (IntKind.u64.wrap (wrap64 (8 * (l0.length : Int)))))))) = w79 at n0_ n1_ n2_ n3_ ⊢
      have HO_9 := n0_
      have BK110 := n1_
      have BK120 := n2_
      have HB := n3_
      clear n0_ n1_ n2_ n3_
      have n0_ := Aside0.mk (Kd.R_drew HO_9.out)
      have n1_ := Aside0.mk (blk_drew BK110.out)
      have n2_ := Aside0.mk (blk_drew BK120.out)
      have n3_ := Aside0.mk (below_drew1 HB.out)
      clear HO_9
      clear BK110
      clear BK120
      clear HB
      have HO_9 := n0_
      have BK110 := n1_
      have BK120 := n2_
      have HB := n3_
      clear n0_ n1_ n2_ n3_
      obtain ⟨Ao81, co81, eo81⟩ := Kd.R_slice HO_9.out
      (first | subst eo81 | (injection eo81 with f1_ f2_ f3_; have f4_ := f1_.symm; have f5_ := f3_.symm; clear f1_ f2_ f3_; subst f4_; subst f5_))
      have p126 : 0 ≤ ((ji67) : Int) := of_decide_eq_true (by first | (with_reducible assumption) | assumption)
      have q126 : (ji67) < (x9_2.length : Int) := of_decide_eq_true (by first | (with_reducible assumption) | assumption)
      obtain ⟨ad126, e126, hx126_0⟩ := Kd.at_int (Kd.R_reads' HO_9.out).2.2 (ji67) p126 q126
      cases e126
      replace p126 := eq_true p126
      replace q126 := eq_true q126
      have p73 : 0 ≤ ((ji67) : Int) := of_decide_eq_true (by first | (with_reducible assumption) | assumption)
      have q73 : ((ji67) : Int) < ((x9_2.length : Int) : Int) := of_decide_eq_true (by first | (with_reducible assumption) | assumption)
      obtain ⟨go73, co73, eo73, gb73, gl73, cl73, HG73⟩ := Kd.R_form HO_9.out (by omega)
      (first | cases eo73 | (injection eo73 with ea_ en_ ec_; (first | subst ea_ | (injection ea_ with ea_; subst ea_)); subst ec_; clear en_))
      have GB73 := Aside0.mk gb73
      have GG73 := Aside0.mk HG73
      clear gb73 gl73 HG73
      (first | simp only [add_plain] at hx126_0 | skip)
      obtain ⟨hx73_0, hf73_0⟩ := Kd.R_celln 0 HO_9.out ((ji67) : Int) p73 q73
      replace p73 := eq_true p73
      replace q73 := eq_true q73
      have HP82 := Kd.R_putn HO_9.out ((ji67) : Int) (Go.bits .xor .u8 (rd x9_2 (ji67)) (ji72))
      rw [← Ny127.out] at HP82
      have HQ82 := Aside0.mk HP82
      clear HP82
      refine start_ (n := 15) (S := fun w' => w'.cell? ⟨gb120, 0, none⟩ = some (.int .i64 x121000_2) ∧ w'.cell? ⟨gb120, 1, none⟩ = some (.int .i64 (wrap64 (Int.tmod (IntKind.u64.wrap a1_1) (IntKind.u64.wrap (wrap64 (8 * (l0.length : Int))))))) ∧ w'.cell? ⟨gb120, 2, none⟩ = some (.int .i64 x121002_2) ∧ w'.cell? ⟨go73, ((ji67)).toNat, none⟩ = some (.int .u8 (rd x9_2 (ji67)))) (ds := [14]) #[false, false, false, false, false, false, false, false, false, false, false, false, false, false, false] (by kernel_rfl) rfl rfl ⟨(blk_cell BK120.out 0).trans rfl, (blk_cell BK120.out 1).trans rfl, (blk_cell BK120.out 2).trans rfl, hx126_0⟩ (fun hHeld => ?_); refine with_tabW stillagelaw01_CrcTells.tab11 stillagelaw01_CrcTells.bits11 (fun HT_ HW_ => ?_)
      generalize w79.drew = w80 at HO_9 BK110 BK120 HB GG73 HQ82 hf73_0 hx126_0 hx73_0 hHeld ⊢
      refine pure_ (i := 0) (N := some 55) (v := ?_) (a' := ?_) #[true, false, false, false, false, false, false, false, false, false, false, false, false, false, false] rfl rfl (any_of HT_.out (by kernel_rfl)) (fun _ _ _ h => h) (Or.inl ⟨by rfl, ?_⟩) ?_ ?_
      rotate_left
      ·intro w'
       go_simp
       with_reducible rfl
      rotate_left
      ·simp only [Act.put, List.setIfInBounds_toArray, List.set_cons_zero, List.set_cons_succ, i64_w, i32_w]
       rfl
      refine pure_ (i := 1) (N := some 56) (v := ?_) (a' := ?_) #[true, true, false, false, false, false, false, false, false, false, false, false, false, false, false] rfl rfl (any_of HT_.out (by kernel_rfl)) (fun _ _ _ h => h) (Or.inl ⟨by rfl, ?_⟩) ?_ ?_
      rotate_left
      ·intro w'
       go_simp
       with_reducible rfl
      rotate_left
      ·simp only [Act.put, List.setIfInBounds_toArray, List.set_cons_zero, List.set_cons_succ, i64_w, i32_w]
       rfl
      refine pure_ (i := 2) (N := some 57) (v := ?_) (a' := ?_) #[true, true, true, false, false, false, false, false, false, false, false, false, false, false, false] rfl rfl (any_of HT_.out (by kernel_rfl)) (fun _ _ _ h => h) (Or.inl ⟨by rfl, ?_⟩) ?_ ?_
      rotate_left
      ·intro w'
       go_simp
       with_reducible rfl
      rotate_left
      ·simp only [Act.put, List.setIfInBounds_toArray, List.set_cons_zero, List.set_cons_succ, i64_w, i32_w]
       rfl
      refine pure_ (i := 7) (N := some 62) (v := ?_) (a' := ?_) #[true, true, true, false, false, false, false, true, false, false, false, false, false, false, false] rfl rfl (any_of HT_.out (by kernel_rfl)) (fun _ _ _ h => h) (Or.inl ⟨by rfl, ?_⟩) ?_ ?_
      rotate_left
      ·intro w'
       go_simp
       with_reducible rfl
      rotate_left
      ·simp only [Act.put, List.setIfInBounds_toArray, List.set_cons_zero, List.set_cons_succ, i64_w, i32_w]
       rfl
      refine pure_ (i := 8) (N := some 63) (v := ?_) (a' := ?_) #[true, true, true, false, false, false, false, true, true, false, false, false, false, false, false] rfl rfl (any_of HT_.out (by kernel_rfl)) (fun _ _ _ h => h) (Or.inl ⟨by rfl, ?_⟩) ?_ ?_
      rotate_left
      ·intro w'
       go_simp
       with_reducible rfl
      rotate_left
      ·simp only [Act.put, List.setIfInBounds_toArray, List.set_cons_zero, List.set_cons_succ, i64_w, i32_w]
       rfl
      refine take_ (i := 3) (N := some 58) (v := ?_) (a' := ?_) #[true, true, true, true, false, false, false, true, true, false, false, false, false, false, false] rfl rfl (take_ofW HT_.out HW_.out (by kernel_rfl)) (fun _ _ _ h => h) (Or.inl ⟨by rfl, ?_⟩) hHeld ?_ ?_
      rotate_left
      ·rintro w' ⟨s0, s1, s2, s3⟩
       go_simp
       with_reducible rfl
      rotate_left
      ·simp only [Act.put, List.setIfInBounds_toArray, List.set_cons_zero, List.set_cons_succ, i64_w, i32_w]
       rfl
      refine pure_ (i := 4) (N := some 59) (v := ?_) (a' := ?_) #[true, true, true, true, true, false, false, true, true, false, false, false, false, false, false] rfl rfl (any_of HT_.out (by kernel_rfl)) (fun _ _ _ h => h) (Or.inl ⟨by rfl, ?_⟩) ?_ ?_
      rotate_left
      ·intro w'
       go_simp
       with_reducible rfl
      rotate_left
      ·simp only [Act.put, List.setIfInBounds_toArray, List.set_cons_zero, List.set_cons_succ, i64_w, i32_w]
       rfl
      refine pure_ (i := 5) (N := some 60) (v := ?_) (a' := ?_) #[true, true, true, true, true, true, false, true, true, false, false, false, false, false, false] rfl rfl (any_of HT_.out (by kernel_rfl)) (fun _ _ _ h => h) (Or.inl ⟨by rfl, ?_⟩) ?_ ?_
      rotate_left
      ·intro w'
       go_simp
       with_reducible rfl
      rotate_left
      ·simp only [Act.put, List.setIfInBounds_toArray, List.set_cons_zero, List.set_cons_succ, i64_w, i32_w]
       rfl
      refine take_ (i := 6) (N := some 61) (v := ?_) (a' := ?_) #[true, true, true, true, true, true, true, true, true, false, false, false, false, false, false] rfl rfl (take_ofW HT_.out HW_.out (by kernel_rfl)) (fun _ _ _ h => h) (Or.inl ⟨by rfl, ?_⟩) hHeld ?_ ?_
      rotate_left
      ·rintro w' ⟨s0, s1, s2, s3⟩
       go_simp
       with_reducible rfl
      rotate_left
      ·simp only [Act.put, List.setIfInBounds_toArray, List.set_cons_zero, List.set_cons_succ, i64_w, i32_w]
       rfl
      refine take_ (i := 9) (N := some 64) (v := ?_) (a' := ?_) #[true, true, true, true, true, true, true, true, true, true, false, false, false, false, false] rfl rfl (take_ofW HT_.out HW_.out (by kernel_rfl)) (fun _ _ _ h => h) (Or.inl ⟨by rfl, ?_⟩) hHeld ?_ ?_
      rotate_left
      ·rintro w' ⟨s0, s1, s2, s3⟩
       go_simp
       with_reducible rfl
      rotate_left
      ·simp only [Act.put, List.setIfInBounds_toArray, List.set_cons_zero, List.set_cons_succ, i64_w, i32_w]
       rfl
      refine pure_ (i := 10) (N := some 65) (v := ?_) (a' := ?_) #[true, true, true, true, true, true, true, true, true, true, true, false, false, false, false] rfl rfl (any_of HT_.out (by kernel_rfl)) (fun _ _ _ h => h) (Or.inl ⟨by rfl, ?_⟩) ?_ ?_
      rotate_left
      ·intro w'
       go_simp
       with_reducible rfl
      rotate_left
      ·simp only [Act.put, List.setIfInBounds_toArray, List.set_cons_zero, List.set_cons_succ, i64_w, i32_w]
       rfl
      refine pure_ (i := 11) (N := some 66) (v := ?_) (a' := ?_) #[true, true, true, true, true, true, true, true, true, true, true, true, false, false, false] rfl rfl (any_of HT_.out (by kernel_rfl)) (fun _ _ _ h => h) (Or.inl ⟨by rfl, ?_⟩) ?_ ?_
      rotate_left
      ·intro w'
       go_simp
       with_reducible rfl
      rotate_left
      ·simp only [Act.put, List.setIfInBounds_toArray, List.set_cons_zero, List.set_cons_succ, i64_w, i32_w]
       rfl
      refine pure_ (i := 12) (N := some 67) (v := ?_) (a' := ?_) #[true, true, true, true, true, true, true, true, true, true, true, true, true, false, false] rfl rfl (any_of HT_.out (by kernel_rfl)) (fun _ _ _ h => h) (Or.inl ⟨by rfl, ?_⟩) ?_ ?_
      rotate_left
      ·intro w'
       go_simp
       with_reducible rfl
      rotate_left
      ·simp only [Act.put, List.setIfInBounds_toArray, List.set_cons_zero, List.set_cons_succ, i64_w, i32_w]
       rfl
      refine pure_ (i := 13) (N := some 68) (v := ?_) (a' := ?_) #[true, true, true, true, true, true, true, true, true, true, true, true, true, true, false] rfl rfl (any_of HT_.out (by kernel_rfl)) (fun _ _ _ h => h) (Or.inl ⟨by rfl, ?_⟩) ?_ ?_
      rotate_left
      ·intro w'
       go_simp
       with_reducible rfl
      rotate_left
      ·simp only [Act.put, List.setIfInBounds_toArray, List.set_cons_zero, List.set_cons_succ, i64_w, i32_w]
       rfl
      refine last_ (i := 14) (N := none) #[true, true, true, true, true, true, true, true, true, true, true, true, true, true, true] rfl rfl (one_of HT_.out (by kernel_rfl)) (by decide) (fun K hK => ?_)
      refine skip_ (w1 := ?_) (by rfl) rfl ?_ ?_
      rotate_left
      ·go_simp
       rfl
      refine hK.out _ _ ?_
      clear hK K
      refine done_ (done_of HT_.out (by kernel_rfl)) ?_
      go_upto_region 12 with (fail)
      go_cut [12] (fun v12 wc => ∃ (kq : Nat) (x12_73 : Bool), v12 = .bool x12_73 ∧ Aside0 (stillagelaw01_CrcTells.j5 kq l0 l2 (IntKind.u64.wrap (wrap64 (8 * (l0.length : Int)))) t113 y127 1 x12_73 1 a1_0 a1_1 a1_2 x121000_2 (wrap64 (Int.tmod (IntKind.u64.wrap a1_1) (IntKind.u64.wrap (wrap64 (8 * (l0.length : Int)))))) x121002_2 = some r) ∧ Aside0 (kq ≤ k2) ∧ Aside0 (Kd.R (Kd.int .u8) 5 wc w.heap.size (fun _ => True) (.slice (some ⟨go73, 0, none⟩) x9_2.length co81) y127) ∧ Aside0 (wc.heap[gb110]? = some (.cells #[.int .i64 a1_0, .int .i64 a1_1, .int .i64 a1_2] 44 (0, 0))) ∧ Aside0 (wc.heap[gb120]? = some (.cells #[.int .i64 x121000_2, .int .i64 (wrap64 (Int.tmod (IntKind.u64.wrap a1_1) (IntKind.u64.wrap (wrap64 (8 * (l0.length : Int)))))), .int .i64 x121002_2] 44 (0, 0))) ∧ Aside0 (Below w.heap.size w wc))
      case first =>
       have H := HC74.out
       clear HC74
       have c83 : (1 : Int) = 1 := by decide
       rw [if_pos (by decide)] at H
       have c83b0 : ((1 : Int) == 1) = true := beq_iff_eq.mpr c83
       have c83b1 : ((1 : Int) != 1) = false := bne_eq_false_iff_eq.mpr c83
       clear c83
       (first | rw [c83b0] | (simp only [i64_w, i32_w]; rw [c83b0]) | skip)
       have H' := Aside0.mk H
       clear H
       have hnb84 := NB120_110.out
       have hnc84 := NB110_120.out
       have hcz85_0 : w80.cell? ⟨gb120, 0, none⟩ = some (.int .i64 x121000_2) := (blk_cell BK120.out 0).trans rfl
       have hcz85_0y : ∀ (i_ : Nat) (y_ : Value), (w80.setCell ⟨go73, i_, none⟩ y_).cell? ⟨gb120, 0, none⟩ = some (.int .i64 x121000_2) := fun i_ y_ => (blk_cell (blk_far (p := ⟨go73, i_, none⟩) BK120.out (by have h_ := Kd.R_ne HO_9.out BK120.out (by decide); intro e_; exact h_ (by rw [e_]; rfl)) y_) 0).trans rfl
       have hcz85_1 : w80.cell? ⟨gb120, 1, none⟩ = some (.int .i64 (wrap64 (Int.tmod (IntKind.u64.wrap a1_1) (IntKind.u64.wrap (wrap64 (8 * (l0.length : Int))))))) := (blk_cell BK120.out 1).trans rfl
       have hcz85_1y : ∀ (i_ : Nat) (y_ : Value), (w80.setCell ⟨go73, i_, none⟩ y_).cell? ⟨gb120, 1, none⟩ = some (.int .i64 (wrap64 (Int.tmod (IntKind.u64.wrap a1_1) (IntKind.u64.wrap (wrap64 (8 * (l0.length : Int))))))) := fun i_ y_ => (blk_cell (blk_far (p := ⟨go73, i_, none⟩) BK120.out (by have h_ := Kd.R_ne HO_9.out BK120.out (by decide); intro e_; exact h_ (by rw [e_]; rfl)) y_) 1).trans rfl
       have hcz85_2 : w80.cell? ⟨gb120, 2, none⟩ = some (.int .i64 x121002_2) := (blk_cell BK120.out 2).trans rfl
       have hcz85_2y : ∀ (i_ : Nat) (y_ : Value), (w80.setCell ⟨go73, i_, none⟩ y_).cell? ⟨gb120, 2, none⟩ = some (.int .i64 x121002_2) := fun i_ y_ => (blk_cell (blk_far (p := ⟨go73, i_, none⟩) BK120.out (by have h_ := Kd.R_ne HO_9.out BK120.out (by decide); intro e_; exact h_ (by rw [e_]; rfl)) y_) 2).trans rfl
       have hfz85_0 := blk_frozen BK120.out 0
       have hfz85_1 := blk_frozen BK120.out 1
       have hfz85_2 := blk_frozen BK120.out 2
       go_wp2
       go_meet
       case rel => exact ⟨_, ((x121000_2 != (wrap64 (Int.tmod (IntKind.u64.wrap a1_1) (IntKind.u64.wrap (wrap64 (8 * (l0.length : Int)))))))), (by first | rfl | (simp; done) | (simp [*]; done)), H', ⟨by have := HJ3.out; have := HK2.out; first | omega | exact Nat.le_refl _⟩, ⟨by (with_reducible repeat (first | apply Kd.R_alloc | apply Kd.R_drewN | apply Kd.R_drew)); exact HQ82.out⟩, ⟨by (with_reducible repeat (first | refine blk_drewN ?_ _ | refine blk_drew ?_ | refine blk_alloc ?_ _)); refine blk_far ?_ (by have h_ := Kd.R_ne HO_9.out BK110.out (by decide); intro e_; exact h_ (by rw [e_]; rfl)) _; (with_reducible repeat (first | refine blk_drewN ?_ _ | refine blk_drew ?_ | refine blk_alloc ?_ _)); exact BK110.out⟩, ⟨by (with_reducible repeat (first | refine blk_drewN ?_ _ | refine blk_drew ?_ | refine blk_alloc ?_ _)); refine blk_far ?_ (by have h_ := Kd.R_ne HO_9.out BK120.out (by decide); intro e_; exact h_ (by rw [e_]; rfl)) _; (with_reducible repeat (first | refine blk_drewN ?_ _ | refine blk_drew ?_ | refine blk_alloc ?_ _)); exact BK120.out⟩, ⟨by repeat (first | (with_reducible first | exact HB.out | apply below_alloc | apply pw_below_drewN | apply below_drew1 | refine below_set ?_ GB73.out | refine below_set ?_ GE110.out | refine below_set ?_ GE120.out) | exact HB.out)⟩⟩
      case rest =>
       clear HC74
       obtain ⟨kq, x12_73, rfl, HA, HJ73, HO_9, BK110, BK120, HB⟩ := hcut
       have hl9_73 := (Kd.R_reads' HO_9.out).1
       rw [hl9_73] at HO_9
       (try simp only [hl9_73])
       (try simp only [hl9_73] at BK110)
       (try simp only [hl9_73] at BK120)
       cases kq with
       | zero => exact absurd HA.out (by simp [stillagelaw01_CrcTells.j5])
       | succ kj73 =>
        have H := HA.out
        clear HA
        simp only [stillagelaw01_CrcTells.j5] at H
        have HC86 := Aside0.mk H
        clear H
        go_upto_region 13 with (fail)
        go_cut [100] (fun v100 wc => ∃ (kq : Nat) (x100_85 : Bool), v100 = .bool x100_85 ∧ Aside0 (stillagelaw01_CrcTells.j6 kq l0 l2 (IntKind.u64.wrap (wrap64 (8 * (l0.length : Int)))) t113 y127 1 x12_73 1 x100_85 a1_0 a1_1 a1_2 x121000_2 (wrap64 (Int.tmod (IntKind.u64.wrap a1_1) (IntKind.u64.wrap (wrap64 (8 * (l0.length : Int)))))) x121002_2 = some r) ∧ Aside0 (kq ≤ kj73) ∧ Aside0 (Kd.R (Kd.int .u8) 5 wc w.heap.size (fun _ => True) (.slice (some ⟨go73, 0, none⟩) y127.length co81) y127) ∧ Aside0 (wc.heap[gb110]? = some (.cells #[.int .i64 a1_0, .int .i64 a1_1, .int .i64 a1_2] 44 (0, 0))) ∧ Aside0 (wc.heap[gb120]? = some (.cells #[.int .i64 x121000_2, .int .i64 (wrap64 (Int.tmod (IntKind.u64.wrap a1_1) (IntKind.u64.wrap (wrap64 (8 * (l0.length : Int)))))), .int .i64 x121002_2] 44 (0, 0))) ∧ Aside0 (Below w.heap.size w wc))
        case first =>
         have H := HC86.out
         clear HC86
         have c87 : ¬ (1 : Int) = 2 := by decide
         rw [if_neg (by decide)] at H
         have c87b0 : ((1 : Int) == 2) = false := beq_eq_false_iff_ne.mpr c87
         have c87b1 : ((1 : Int) != 2) = true := bne_iff_ne.mpr c87
         (first | rw [c87b0] | (simp only [i64_w, i32_w]; rw [c87b0]) | skip)
         have H' := Aside0.mk H
         clear H
         go_wp2
         go_meet
         case rel => exact ⟨_, (false), (by first | rfl | (simp; done) | (simp [*]; done)), H', ⟨by have := HJ3.out; have := HK2.out; have := HJ73.out; first | omega | exact Nat.le_refl _⟩, ⟨by (try simp only [hl9_73]); (with_reducible repeat (first | apply Kd.R_alloc | apply Kd.R_drewN | apply Kd.R_drew)); exact HO_9.out⟩, ⟨by (try simp only [hl9_73]); (with_reducible repeat (first | refine blk_drewN ?_ _ | refine blk_drew ?_ | refine blk_alloc ?_ _)); exact BK110.out⟩, ⟨by (try simp only [hl9_73]); (with_reducible repeat (first | refine blk_drewN ?_ _ | refine blk_drew ?_ | refine blk_alloc ?_ _)); exact BK120.out⟩, ⟨by repeat (first | (with_reducible first | exact HB.out | apply below_alloc | apply pw_below_drewN | apply below_drew1 | refine below_set ?_ GE110.out | refine below_set ?_ GE120.out) | exact HB.out)⟩⟩
        case rest =>
         clear HC86
         obtain ⟨kq, x100_85, rfl, HA, HJ85, HO_9, BK110, BK120, HB⟩ := hcut
         cases kq with
         | zero => exact absurd HA.out (by simp [stillagelaw01_CrcTells.j6])
         | succ kj85 =>
          have H := HA.out
          clear HA
          simp only [stillagelaw01_CrcTells.j6] at H
          have HC96 := Aside0.mk H
          clear H
          go_upto_if 100 with (fail)
          go_cut [12] (fun v12 wc => ∃ (kq : Nat) (x12_95 : Bool), v12 = .bool x12_95 ∧ Aside0 (stillagelaw01_CrcTells.j7 kq l0 l2 (IntKind.u64.wrap (wrap64 (8 * (l0.length : Int)))) t113 y127 1 x12_95 1 a1_0 a1_1 a1_2 x121000_2 (wrap64 (Int.tmod (IntKind.u64.wrap a1_1) (IntKind.u64.wrap (wrap64 (8 * (l0.length : Int)))))) x121002_2 = some r) ∧ Aside0 (kq ≤ kj85) ∧ Aside0 (Kd.R (Kd.int .u8) 5 wc w.heap.size (fun _ => True) (.slice (some ⟨go73, 0, none⟩) y127.length co81) y127) ∧ Aside0 (wc.heap[gb110]? = some (.cells #[.int .i64 a1_0, .int .i64 a1_1, .int .i64 a1_2] 44 (0, 0))) ∧ Aside0 (wc.heap[gb120]? = some (.cells #[.int .i64 x121000_2, .int .i64 (wrap64 (Int.tmod (IntKind.u64.wrap a1_1) (IntKind.u64.wrap (wrap64 (8 * (l0.length : Int)))))), .int .i64 x121002_2] 44 (0, 0))) ∧ Aside0 (Below w.heap.size w wc))
          case first =>
           have H := HC96.out
           clear HC96
           by_cases c97 : x100_85 = true
           ·subst c97
            have H1 : (stillagelaw01_CrcTells.j7 kj85 l0 l2 (IntKind.u64.wrap (wrap64 (8 * (l0.length : Int)))) t113 y127 1 true 1 a1_0 a1_1 a1_2 x121000_2 (wrap64 (Int.tmod (IntKind.u64.wrap a1_1) (IntKind.u64.wrap (wrap64 (8 * (l0.length : Int)))))) x121002_2) = some r := by rw [if_pos rfl] at H; exact H
            clear H
            have H := H1
            clear H1
            have H' := Aside0.mk H
            clear H
            go_wp2
            go_meet
            case rel => exact ⟨_, (true), (by first | rfl | (simp; done) | (simp [*]; done)), H', ⟨by have := HJ3.out; have := HK2.out; have := HJ73.out; have := HJ85.out; first | omega | exact Nat.le_refl _⟩, ⟨by (try simp only [hl9_73]); (with_reducible repeat (first | apply Kd.R_alloc | apply Kd.R_drewN | apply Kd.R_drew)); exact HO_9.out⟩, ⟨by (try simp only [hl9_73]); (with_reducible repeat (first | refine blk_drewN ?_ _ | refine blk_drew ?_ | refine blk_alloc ?_ _)); exact BK110.out⟩, ⟨by (try simp only [hl9_73]); (with_reducible repeat (first | refine blk_drewN ?_ _ | refine blk_drew ?_ | refine blk_alloc ?_ _)); exact BK120.out⟩, ⟨by repeat (first | (with_reducible first | exact HB.out | apply below_alloc | apply pw_below_drewN | apply below_drew1 | refine below_set ?_ GE110.out | refine below_set ?_ GE120.out) | exact HB.out)⟩⟩
           replace c97 := Bool.eq_false_iff.mpr c97
           subst c97
           have H1 : (stillagelaw01_CrcTells.j7 kj85 l0 l2 (IntKind.u64.wrap (wrap64 (8 * (l0.length : Int)))) t113 y127 1 x12_73 1 a1_0 a1_1 a1_2 x121000_2 (wrap64 (Int.tmod (IntKind.u64.wrap a1_1) (IntKind.u64.wrap (wrap64 (8 * (l0.length : Int)))))) x121002_2) = some r := by rw [if_neg (show ¬ (false = true) by decide)] at H; exact H
           clear H
           have H := H1
           clear H1
           have H' := Aside0.mk H
           clear H
           go_wp2
           go_meet
           case rel => exact ⟨_, (x12_73), (by first | rfl | (simp; done) | (simp [*]; done)), H', ⟨by have := HJ3.out; have := HK2.out; have := HJ73.out; have := HJ85.out; first | omega | exact Nat.le_refl _⟩, ⟨by (try simp only [hl9_73]); (with_reducible repeat (first | apply Kd.R_alloc | apply Kd.R_drewN | apply Kd.R_drew)); exact HO_9.out⟩, ⟨by (try simp only [hl9_73]); (with_reducible repeat (first | refine blk_drewN ?_ _ | refine blk_drew ?_ | refine blk_alloc ?_ _)); exact BK110.out⟩, ⟨by (try simp only [hl9_73]); (with_reducible repeat (first | refine blk_drewN ?_ _ | refine blk_drew ?_ | refine blk_alloc ?_ _)); exact BK120.out⟩, ⟨by repeat (first | (with_reducible first | exact HB.out | apply below_alloc | apply pw_below_drewN | apply below_drew1 | refine below_set ?_ GE110.out | refine below_set ?_ GE120.out) | exact HB.out)⟩⟩
          case rest =>
           clear HC96
           obtain ⟨kq, x12_95, rfl, HA, HJ95, HO_9, BK110, BK120, HB⟩ := hcut
           cases kq with
           | zero => exact absurd HA.out (by simp [stillagelaw01_CrcTells.j7])
           | succ kj95 =>
            have H := HA.out
            clear HA
            simp only [stillagelaw01_CrcTells.j7] at H
            replace H := Option.bind_eq_some_iff.mp H
            obtain ⟨t128, A980, H⟩ := H
            replace H : (if ((t128 != t113) != x12_95) = true then (some false) else (if 1 = 0 then ((crc_Find.f kj95 y127 t113).bind fun bt129 => (if bt129.2 = 0 then (if bt129.1 = x121000_2 then (stillagelaw01_CrcTells.l0 kj95 l0 l2 (IntKind.u64.wrap (wrap64 (8 * (l0.length : Int)))) t113 y127 (wrap64 (1 + 1)) a1_0 a1_1 a1_2 x121000_2 (wrap64 (Int.tmod (IntKind.u64.wrap a1_1) (IntKind.u64.wrap (wrap64 (8 * (l0.length : Int)))))) x121002_2) else (some false)) else (some false))) else (stillagelaw01_CrcTells.l0 kj95 l0 l2 (IntKind.u64.wrap (wrap64 (8 * (l0.length : Int)))) t113 y127 (wrap64 (1 + 1)) a1_0 a1_1 a1_2 x121000_2 (wrap64 (Int.tmod (IntKind.u64.wrap a1_1) (IntKind.u64.wrap (wrap64 (8 * (l0.length : Int)))))) x121002_2))) = some r := H
            have A98 := Aside0.mk A980
            clear A980
            by_cases c99 : ((t128 != t113) != x12_95) = true
            ·rw [if_pos c99] at H
             have c99b0 : ((t128 != t113) != x12_95) = true := c99
             (try (have c99b1 : decide ((t128 != t113) = x12_95) = false := by simpa using c99))
             (try (have c99b2 : ((t128 != t113) == x12_95) = false := by simpa using c99))
             (try (have c99b3 : ¬ ((t128 != t113) = x12_95) := by simpa using c99))
             clear c99
             obtain rfl := Option.some.inj H
             go_wp2_with (first | ((with_reducible refine gate_callee (f := 14) rfl ?_); refine goesL_ (some 102) rfl rfl Try.func14 (by kernel_rfl) rfl #[.slice (some ⟨go73, 0, none⟩) y127.length co81] rfl (by (try simp only [List.map_toArray, List.map_cons, List.map_nil]); first | done | rfl | (simp only [List.length_drop, List.length_take]; rfl)) ?_; (with_reducible refine (crc_Sum.calls kj95 _ _ y127 t128 _ ?side1 ?side2 A98.out).mono ?_); (case side1 => repeat (first | exact (Kd.R_reads' HO_9.out).2.2 | (with_reducible refine Kd.C_alloc ?_ _) | (with_reducible refine Kd.C_drewN ?_ _) | (with_reducible refine Kd.C_drew ?_))); (case side2 => exact (Kd.R_reads' HO_9.out).2.1); rintro e w' ⟨rfl, ⟨nd, rfl⟩⟩; refine ⟨_, rfl, ?_⟩))
             go_ret
             exact ⟨by first | rfl | (simp [errW_none, errW_some] <;> rfl) | (simp only [← hji67, ← hji70, ← hji72]; first | rfl | (simp [errW_none, errW_some] <;> rfl)) | (simp [*, errW_none, errW_some] <;> rfl), by repeat (first | (with_reducible first | exact HB.out | apply below_alloc | apply pw_below_drewN | apply below_drew1 | refine below_set ?_ GE110.out | refine below_set ?_ GE120.out) | exact HB.out)⟩
            rw [if_neg c99] at H
            have c99b0 : ((t128 != t113) != x12_95) = false := by simpa using c99
            (try (have c99b1 : decide ((t128 != t113) = x12_95) = true := by simpa using c99))
            (try (have c99b2 : ((t128 != t113) == x12_95) = true := by simpa using c99))
            clear c99
            have c100 : ¬ (1 : Int) = 0 := by decide
            rw [if_neg (by decide)] at H
            have c100b0 : ((1 : Int) == 0) = false := beq_eq_false_iff_ne.mpr c100
            have c100b1 : ((1 : Int) != 0) = true := bne_iff_ne.mpr c100
            have H' := Aside0.mk H
            clear H
            go_wp2_with (first | ((with_reducible refine gate_callee (f := 14) rfl ?_); refine goesL_ (some 102) rfl rfl Try.func14 (by kernel_rfl) rfl #[.slice (some ⟨go73, 0, none⟩) y127.length co81] rfl (by (try simp only [List.map_toArray, List.map_cons, List.map_nil]); first | done | rfl | (simp only [List.length_drop, List.length_take]; rfl)) ?_; (with_reducible refine (crc_Sum.calls kj95 _ _ y127 t128 _ ?side1 ?side2 A98.out).mono ?_); (case side1 => repeat (first | exact (Kd.R_reads' HO_9.out).2.2 | (with_reducible refine Kd.C_alloc ?_ _) | (with_reducible refine Kd.C_drewN ?_ _) | (with_reducible refine Kd.C_drew ?_))); (case side2 => exact (Kd.R_reads' HO_9.out).2.1); rintro e w' ⟨rfl, ⟨nd, rfl⟩⟩; refine ⟨_, rfl, ?_⟩))
            (try simp only [← hl9_73])
            go_roundg kj95
            case measure => have := HJ3.out; have := HK2.out; have := HJ73.out; have := HJ85.out; have := HJ95.out; omega
            case rel => exact ⟨(y127), (wrap64 (1 + 1)), (x121000_2), ((wrap64 (Int.tmod (IntKind.u64.wrap a1_1) (IntKind.u64.wrap (wrap64 (8 * (l0.length : Int))))))), (x121002_2), (by first | rfl | (simp; done) | (simp [*]; done) | (simp; unfold wrap64; omega)), H', ⟨by have := HJ3.out; have := HK2.out; have := HJ73.out; have := HJ85.out; have := HJ95.out; omega⟩, ⟨by (try simp only [hl9_73]); (with_reducible repeat (first | apply Kd.R_alloc | apply Kd.R_drewN | apply Kd.R_drew)); exact HO_9.out⟩, ⟨by (try simp only [hl9_73]); (with_reducible repeat (first | refine blk_drewN ?_ _ | refine blk_drew ?_ | refine blk_alloc ?_ _)); exact BK110.out⟩, ⟨by (try simp only [hl9_73]); (with_reducible repeat (first | refine blk_drewN ?_ _ | refine blk_drew ?_ | refine blk_alloc ?_ _)); exact BK120.out⟩, ⟨by repeat (first | (with_reducible first | exact HB.out | apply below_alloc | apply pw_below_drewN | apply below_drew1 | refine below_set ?_ GE110.out | refine below_set ?_ GE120.out) | exact HB.out)⟩⟩
     rw [if_neg c66] at H
     by_cases c108 : x43_2 = 2
     rotate_left
     ·rw [if_neg c108] at H
      exact absurd H (by simp)
     subst c108
     have H1 : (if 0 ≤ (wrap64 (Int.tdiv (wrap64 (Int.tmod (IntKind.u64.wrap a1_2) (IntKind.u64.wrap (wrap64 (8 * (l0.length : Int)))))) 8)) then (if (wrap64 (Int.tdiv (wrap64 (Int.tmod (IntKind.u64.wrap a1_2) (IntKind.u64.wrap (wrap64 (8 * (l0.length : Int)))))) 8)) < (x9_2.length : Int) then (if 0 ≤ (Int.tmod (wrap64 (Int.tmod (IntKind.u64.wrap a1_2) (IntKind.u64.wrap (wrap64 (8 * (l0.length : Int)))))) 8) then ((some (x9_2.set ((wrap64 (Int.tdiv (wrap64 (Int.tmod (IntKind.u64.wrap a1_2) (IntKind.u64.wrap (wrap64 (8 * (l0.length : Int)))))) 8)) : Int).toNat (Go.bits .xor .u8 (rd x9_2 (wrap64 (Int.tdiv (wrap64 (Int.tmod (IntKind.u64.wrap a1_2) (IntKind.u64.wrap (wrap64 (8 * (l0.length : Int)))))) 8))) (shr .u8 128 (Int.tmod (wrap64 (Int.tmod (IntKind.u64.wrap a1_2) (IntKind.u64.wrap (wrap64 (8 * (l0.length : Int)))))) 8))) : List Int)).bind fun y132 => (if 2 = 1 then (stillagelaw01_CrcTells.j8 k2 l0 l2 (IntKind.u64.wrap (wrap64 (8 * (l0.length : Int)))) t113 y132 2 (x121000_2 != x121001_2) 2 a1_0 a1_1 a1_2 x121000_2 x121001_2 (wrap64 (Int.tmod (IntKind.u64.wrap a1_2) (IntKind.u64.wrap (wrap64 (8 * (l0.length : Int))))))) else (stillagelaw01_CrcTells.j8 k2 l0 l2 (IntKind.u64.wrap (wrap64 (8 * (l0.length : Int)))) t113 y132 2 true 2 a1_0 a1_1 a1_2 x121000_2 x121001_2 (wrap64 (Int.tmod (IntKind.u64.wrap a1_2) (IntKind.u64.wrap (wrap64 (8 * (l0.length : Int))))))))) else (none)) else (none)) else (none)) = some r := by rw [if_pos rfl] at H; exact H
     clear H
     have H := H1
     clear H1
     obtain ⟨ji109, hji109⟩ : ∃ j_ : Int, (wrap64 (Int.tdiv (wrap64 (Int.tmod (IntKind.u64.wrap a1_2) (IntKind.u64.wrap (wrap64 (8 * (l0.length : Int)))))) 8)) = j_ := ⟨_, rfl⟩
     replace H : (if 0 ≤ (ji109) then (if (ji109) < (x9_2.length : Int) then (if 0 ≤ (Int.tmod (wrap64 (Int.tmod (IntKind.u64.wrap a1_2) (IntKind.u64.wrap (wrap64 (8 * (l0.length : Int)))))) 8) then ((some (x9_2.set ((ji109) : Int).toNat (Go.bits .xor .u8 (rd x9_2 (ji109)) (shr .u8 128 (Int.tmod (wrap64 (Int.tmod (IntKind.u64.wrap a1_2) (IntKind.u64.wrap (wrap64 (8 * (l0.length : Int)))))) 8))) : List Int)).bind fun y132 => (if 2 = 1 then (stillagelaw01_CrcTells.j8 k2 l0 l2 (IntKind.u64.wrap (wrap64 (8 * (l0.length : Int)))) t113 y132 2 (x121000_2 != x121001_2) 2 a1_0 a1_1 a1_2 x121000_2 x121001_2 (wrap64 (Int.tmod (IntKind.u64.wrap a1_2) (IntKind.u64.wrap (wrap64 (8 * (l0.length : Int))))))) else (stillagelaw01_CrcTells.j8 k2 l0 l2 (IntKind.u64.wrap (wrap64 (8 * (l0.length : Int)))) t113 y132 2 true 2 a1_0 a1_1 a1_2 x121000_2 x121001_2 (wrap64 (Int.tmod (IntKind.u64.wrap a1_2) (IntKind.u64.wrap (wrap64 (8 * (l0.length : Int))))))))) else (none)) else (none)) else (none)) = some r := by first | (rw [hji109] at H; exact H) | (simp only [hji109] at H ⊢; exact H)
     have hji109w : (IntKind.i64.wrap (Int.tdiv (wrap64 (Int.tmod (IntKind.u64.wrap a1_2) (IntKind.u64.wrap (wrap64 (8 * (l0.length : Int)))))) 8)) = ji109 := (i64_w _).trans hji109
     by_cases c110 : 0 ≤ (ji109)
     rotate_left
     ·rw [if_neg c110] at H
      exact absurd H (by simp)
     rw [if_pos c110] at H
     have c110b0 : decide (0 ≤ (ji109)) = true := decide_eq_true c110
     clear c110
     by_cases c111 : (ji109) < (x9_2.length : Int)
     rotate_left
     ·rw [if_neg c111] at H
      exact absurd H (by simp)
     rw [if_pos c111] at H
     have c111b0 : decide ((ji109) < (x9_2.length : Int)) = true := decide_eq_true c111
     clear c111
     obtain ⟨ji112, hji112⟩ : ∃ j_ : Int, (Int.tmod (wrap64 (Int.tmod (IntKind.u64.wrap a1_2) (IntKind.u64.wrap (wrap64 (8 * (l0.length : Int)))))) 8) = j_ := ⟨_, rfl⟩
     replace H : (if 0 ≤ (ji112) then ((some (x9_2.set ((ji109) : Int).toNat (Go.bits .xor .u8 (rd x9_2 (ji109)) (shr .u8 128 (ji112))) : List Int)).bind fun y132 => (if 2 = 1 then (stillagelaw01_CrcTells.j8 k2 l0 l2 (IntKind.u64.wrap (wrap64 (8 * (l0.length : Int)))) t113 y132 2 (x121000_2 != x121001_2) 2 a1_0 a1_1 a1_2 x121000_2 x121001_2 (wrap64 (Int.tmod (IntKind.u64.wrap a1_2) (IntKind.u64.wrap (wrap64 (8 * (l0.length : Int))))))) else (stillagelaw01_CrcTells.j8 k2 l0 l2 (IntKind.u64.wrap (wrap64 (8 * (l0.length : Int)))) t113 y132 2 true 2 a1_0 a1_1 a1_2 x121000_2 x121001_2 (wrap64 (Int.tmod (IntKind.u64.wrap a1_2) (IntKind.u64.wrap (wrap64 (8 * (l0.length : Int))))))))) else (none)) = some r := by first | (rw [hji112] at H; exact H) | (simp only [hji112] at H ⊢; exact H)
     by_cases c113 : 0 ≤ (ji112)
     rotate_left
     ·rw [if_neg c113] at H
      exact absurd H (by simp)
     rw [if_pos c113] at H
     have c113b0 := eq_true c113
     have c113b1 : decide (0 ≤ (ji112)) = true := decide_eq_true c113
     clear c113
     obtain ⟨ji114, hji114⟩ : ∃ j_ : Int, (shr .u8 128 (ji112)) = j_ := ⟨_, rfl⟩
     replace H : ((some (x9_2.set ((ji109) : Int).toNat (Go.bits .xor .u8 (rd x9_2 (ji109)) (ji114)) : List Int)).bind fun y132 => (if 2 = 1 then (stillagelaw01_CrcTells.j8 k2 l0 l2 (IntKind.u64.wrap (wrap64 (8 * (l0.length : Int)))) t113 y132 2 (x121000_2 != x121001_2) 2 a1_0 a1_1 a1_2 x121000_2 x121001_2 (wrap64 (Int.tmod (IntKind.u64.wrap a1_2) (IntKind.u64.wrap (wrap64 (8 * (l0.length : Int))))))) else (stillagelaw01_CrcTells.j8 k2 l0 l2 (IntKind.u64.wrap (wrap64 (8 * (l0.length : Int)))) t113 y132 2 true 2 a1_0 a1_1 a1_2 x121000_2 x121001_2 (wrap64 (Int.tmod (IntKind.u64.wrap a1_2) (IntKind.u64.wrap (wrap64 (8 * (l0.length : Int))))))))) = some r := by first | (rw [hji114] at H; exact H) | (simp only [hji114] at H ⊢; exact H)
     have hji114_ : (128 / 2 ^ min (ji112).toNat 8) = ji114 := hji114
     have hji114z : (ji112) ≤ 8 → (128 / 2 ^ (ji112).toNat) = ji114 := shr_small hji114
     obtain ⟨y132, hy132⟩ : ∃ y_ : List Int, y_ = (x9_2.set ((ji109) : Int).toNat (Go.bits .xor .u8 (rd x9_2 (ji109)) (ji114))) := ⟨_, rfl⟩
     replace H : (if 2 = 1 then (stillagelaw01_CrcTells.j8 k2 l0 l2 (IntKind.u64.wrap (wrap64 (8 * (l0.length : Int)))) t113 y132 2 (x121000_2 != x121001_2) 2 a1_0 a1_1 a1_2 x121000_2 x121001_2 (wrap64 (Int.tmod (IntKind.u64.wrap a1_2) (IntKind.u64.wrap (wrap64 (8 * (l0.length : Int))))))) else (stillagelaw01_CrcTells.j8 k2 l0 l2 (IntKind.u64.wrap (wrap64 (8 * (l0.length : Int)))) t113 y132 2 true 2 a1_0 a1_1 a1_2 x121000_2 x121001_2 (wrap64 (Int.tmod (IntKind.u64.wrap a1_2) (IntKind.u64.wrap (wrap64 (8 * (l0.length : Int)))))))) = some r := by first | (rw [hy132]; with_reducible exact H) | (have H2_ := (Option.bind_some _ _).symm.trans H; rw [hy132]; with_reducible exact H2_) | (have H2_ := (Option.bind_some _ _).symm.trans H; with_reducible exact H2_) | with_reducible exact H | (rw [hy132]; exact H) | exact H
     have Ny132 := Aside0.mk hy132
     clear hy132
     have HC116 := Aside0.mk H
     clear H
     have hnb117 := NB110_120.out
     have hnc117 := NB120_110.out
     have hcz118_0 : wr.cell? ⟨gb110, 0, none⟩ = some (.int .i64 a1_0) := (blk_cell BK110.out 0).trans rfl
     have hcz118_1 : wr.cell? ⟨gb110, 1, none⟩ = some (.int .i64 a1_1) := (blk_cell BK110.out 1).trans rfl
     have hcz118_2 : wr.cell? ⟨gb110, 2, none⟩ = some (.int .i64 a1_2) := (blk_cell BK110.out 2).trans rfl
     have hfz118_0 := blk_frozen BK110.out 0
     have hfz118_1 := blk_frozen BK110.out 1
     have hfz118_2 := blk_frozen BK110.out 2
     have hcz120_0 : wr.cell? ⟨gb120, 0, none⟩ = some (.int .i64 x121000_2) := (blk_cell BK120.out 0).trans rfl
     have hcz120_1 : wr.cell? ⟨gb120, 1, none⟩ = some (.int .i64 x121001_2) := (blk_cell BK120.out 1).trans rfl
     have hcz120_2 : wr.cell? ⟨gb120, 2, none⟩ = some (.int .i64 x121002_2) := (blk_cell BK120.out 2).trans rfl
     have hfz120_0 := blk_frozen BK120.out 0
     have hfz120_1 := blk_frozen BK120.out 1
     have hfz120_2 := blk_frozen BK120.out 2
     try go_wp2
     have n0_ : Aside0 (Kd.R (Kd.int .u8) 5 (wr.setCell ⟨gb120, 2, none⟩ (.int .i64 (wrap64 (Int.tmod (IntKind.u64.wrap a1_2) (IntKind.u64.wrap (wrap64 (8 * (l0.length : Int)))))))) w.heap.size (fun _ => True) v118 x9_2) := ⟨by (with_reducible repeat (first | apply Kd.R_alloc | apply Kd.R_drewN | apply Kd.R_drew)); exact Kd.R_mono (Kd.R_far (p := ⟨gb120, 2, none⟩) (Kd.R_types HO_9.out BK120.out (by decide)) (fun _ hk => hk.2) (.int .i64 (wrap64 (Int.tmod (IntKind.u64.wrap a1_2) (IntKind.u64.wrap (wrap64 (8 * (l0.length : Int)))))))) (fun _ hk => trivial)⟩
     have n1_ : Aside0 ((wr.setCell ⟨gb120, 2, none⟩ (.int .i64 (wrap64 (Int.tmod (IntKind.u64.wrap a1_2) (IntKind.u64.wrap (wrap64 (8 * (l0.length : Int)))))))).heap[gb110]? = some (.cells #[.int .i64 a1_0, .int .i64 a1_1, .int .i64 a1_2] 44 (0, 0))) := ⟨by (with_reducible repeat (first | refine blk_drewN ?_ _ | refine blk_drew ?_ | refine blk_alloc ?_ _)); refine blk_far ?_ NB110_120.out _; (with_reducible repeat (first | refine blk_drewN ?_ _ | refine blk_drew ?_ | refine blk_alloc ?_ _)); exact BK110.out⟩
     have n2_ : Aside0 ((wr.setCell ⟨gb120, 2, none⟩ (.int .i64 (wrap64 (Int.tmod (IntKind.u64.wrap a1_2) (IntKind.u64.wrap (wrap64 (8 * (l0.length : Int)))))))).heap[gb120]? = some (.cells #[.int .i64 x121000_2, .int .i64 x121001_2, .int .i64 (wrap64 (Int.tmod (IntKind.u64.wrap a1_2) (IntKind.u64.wrap (wrap64 (8 * (l0.length : Int))))))] 44 (0, 0))) := ⟨by (with_reducible repeat (first | refine blk_drewN ?_ _ | refine blk_drew ?_ | refine blk_alloc ?_ _)); refine blk_put (cs := #[.int .i64 x121000_2, .int .i64 x121001_2, .int .i64 x121002_2]) ?_ 2 _ rfl; (with_reducible repeat (first | refine blk_drewN ?_ _ | refine blk_drew ?_ | refine blk_alloc ?_ _)); exact BK120.out⟩
     have n3_ : Aside0 (Below w.heap.size w (wr.setCell ⟨gb120, 2, none⟩ (.int .i64 (wrap64 (Int.tmod (IntKind.u64.wrap a1_2) (IntKind.u64.wrap (wrap64 (8 * (l0.length : Int))))))))) := ⟨by repeat (first | (with_reducible first | exact HB.out | apply below_alloc | apply pw_below_drewN | apply below_drew1 | refine below_set ?_ GE110.out | refine below_set ?_ GE120.out) | exact HB.out)⟩
     generalize (wr.setCell ⟨gb120, 2, none⟩ (.int .i64 (wrap64 (Int.tmod (IntKind.u64.wrap a1_2) (IntKind.u64.wrap (wrap64 (8 * (l0.length : Int)))))))) = w121 at n0_ n1_ n2_ n3_ ⊢
     have HO_9 := n0_
     have BK110 := n1_
     have BK120 := n2_
     have HB := n3_
     clear n0_ n1_ n2_ n3_
     have n0_ := Aside0.mk (Kd.R_drew HO_9.out)
     have n1_ := Aside0.mk (blk_drew BK110.out)
     have n2_ := Aside0.mk (blk_drew BK120.out)
     have n3_ := Aside0.mk (below_drew1 HB.out)
     clear HO_9
     clear BK110
     clear BK120
     clear HB
     have HO_9 := n0_
     have BK110 := n1_
     have BK120 := n2_
     have HB := n3_
     clear n0_ n1_ n2_ n3_
     obtain ⟨Ao123, co123, eo123⟩ := Kd.R_slice HO_9.out
     (first | subst eo123 | (injection eo123 with f1_ f2_ f3_; have f4_ := f1_.symm; have f5_ := f3_.symm; clear f1_ f2_ f3_; subst f4_; subst f5_))
     have p131 : 0 ≤ ((ji109) : Int) := of_decide_eq_true (by first | (with_reducible assumption) | assumption)
     have q131 : (ji109) < (x9_2.length : Int) := of_decide_eq_true (by first | (with_reducible assumption) | assumption)
     obtain ⟨ad131, e131, hx131_0⟩ := Kd.at_int (Kd.R_reads' HO_9.out).2.2 (ji109) p131 q131
     cases e131
     replace p131 := eq_true p131
     replace q131 := eq_true q131
     have p115 : 0 ≤ ((ji109) : Int) := of_decide_eq_true (by first | (with_reducible assumption) | assumption)
     have q115 : ((ji109) : Int) < ((x9_2.length : Int) : Int) := of_decide_eq_true (by first | (with_reducible assumption) | assumption)
     obtain ⟨go115, co115, eo115, gb115, gl115, cl115, HG115⟩ := Kd.R_form HO_9.out (by omega)
     (first | cases eo115 | (injection eo115 with ea_ en_ ec_; (first | subst ea_ | (injection ea_ with ea_; subst ea_)); subst ec_; clear en_))
     have GB115 := Aside0.mk gb115
     have GG115 := Aside0.mk HG115
     clear gb115 gl115 HG115
     (first | simp only [add_plain] at hx131_0 | skip)
     obtain ⟨hx115_0, hf115_0⟩ := Kd.R_celln 0 HO_9.out ((ji109) : Int) p115 q115
     replace p115 := eq_true p115
     replace q115 := eq_true q115
     have HP124 := Kd.R_putn HO_9.out ((ji109) : Int) (Go.bits .xor .u8 (rd x9_2 (ji109)) (ji114))
     rw [← Ny132.out] at HP124
     have HQ124 := Aside0.mk HP124
     clear HP124
     refine start_ (n := 15) (S := fun w' => w'.cell? ⟨gb120, 0, none⟩ = some (.int .i64 x121000_2) ∧ w'.cell? ⟨gb120, 1, none⟩ = some (.int .i64 x121001_2) ∧ w'.cell? ⟨gb120, 2, none⟩ = some (.int .i64 (wrap64 (Int.tmod (IntKind.u64.wrap a1_2) (IntKind.u64.wrap (wrap64 (8 * (l0.length : Int))))))) ∧ w'.cell? ⟨go115, ((ji109)).toNat, none⟩ = some (.int .u8 (rd x9_2 (ji109)))) (ds := [14]) #[false, false, false, false, false, false, false, false, false, false, false, false, false, false, false] (by kernel_rfl) rfl rfl ⟨(blk_cell BK120.out 0).trans rfl, (blk_cell BK120.out 1).trans rfl, (blk_cell BK120.out 2).trans rfl, hx131_0⟩ (fun hHeld => ?_); refine with_tabW stillagelaw01_CrcTells.tab11 stillagelaw01_CrcTells.bits11 (fun HT_ HW_ => ?_)
     generalize w121.drew = w122 at HO_9 BK110 BK120 HB GG115 HQ124 hf115_0 hx115_0 hx131_0 hHeld ⊢
     refine pure_ (i := 0) (N := some 55) (v := ?_) (a' := ?_) #[true, false, false, false, false, false, false, false, false, false, false, false, false, false, false] rfl rfl (any_of HT_.out (by kernel_rfl)) (fun _ _ _ h => h) (Or.inl ⟨by rfl, ?_⟩) ?_ ?_
     rotate_left
     ·intro w'
      go_simp
      with_reducible rfl
     rotate_left
     ·simp only [Act.put, List.setIfInBounds_toArray, List.set_cons_zero, List.set_cons_succ, i64_w, i32_w]
      rfl
     refine pure_ (i := 1) (N := some 56) (v := ?_) (a' := ?_) #[true, true, false, false, false, false, false, false, false, false, false, false, false, false, false] rfl rfl (any_of HT_.out (by kernel_rfl)) (fun _ _ _ h => h) (Or.inl ⟨by rfl, ?_⟩) ?_ ?_
     rotate_left
     ·intro w'
      go_simp
      with_reducible rfl
     rotate_left
     ·simp only [Act.put, List.setIfInBounds_toArray, List.set_cons_zero, List.set_cons_succ, i64_w, i32_w]
      rfl
     refine pure_ (i := 2) (N := some 57) (v := ?_) (a' := ?_) #[true, true, true, false, false, false, false, false, false, false, false, false, false, false, false] rfl rfl (any_of HT_.out (by kernel_rfl)) (fun _ _ _ h => h) (Or.inl ⟨by rfl, ?_⟩) ?_ ?_
     rotate_left
     ·intro w'
      go_simp
      with_reducible rfl
     rotate_left
     ·simp only [Act.put, List.setIfInBounds_toArray, List.set_cons_zero, List.set_cons_succ, i64_w, i32_w]
      rfl
     refine pure_ (i := 7) (N := some 62) (v := ?_) (a' := ?_) #[true, true, true, false, false, false, false, true, false, false, false, false, false, false, false] rfl rfl (any_of HT_.out (by kernel_rfl)) (fun _ _ _ h => h) (Or.inl ⟨by rfl, ?_⟩) ?_ ?_
     rotate_left
     ·intro w'
      go_simp
      with_reducible rfl
     rotate_left
     ·simp only [Act.put, List.setIfInBounds_toArray, List.set_cons_zero, List.set_cons_succ, i64_w, i32_w]
      rfl
     refine pure_ (i := 8) (N := some 63) (v := ?_) (a' := ?_) #[true, true, true, false, false, false, false, true, true, false, false, false, false, false, false] rfl rfl (any_of HT_.out (by kernel_rfl)) (fun _ _ _ h => h) (Or.inl ⟨by rfl, ?_⟩) ?_ ?_
     rotate_left
     ·intro w'
      go_simp
      with_reducible rfl
     rotate_left
     ·simp only [Act.put, List.setIfInBounds_toArray, List.set_cons_zero, List.set_cons_succ, i64_w, i32_w]
      rfl
     refine take_ (i := 3) (N := some 58) (v := ?_) (a' := ?_) #[true, true, true, true, false, false, false, true, true, false, false, false, false, false, false] rfl rfl (take_ofW HT_.out HW_.out (by kernel_rfl)) (fun _ _ _ h => h) (Or.inl ⟨by rfl, ?_⟩) hHeld ?_ ?_
     rotate_left
     ·rintro w' ⟨s0, s1, s2, s3⟩
      go_simp
      with_reducible rfl
     rotate_left
     ·simp only [Act.put, List.setIfInBounds_toArray, List.set_cons_zero, List.set_cons_succ, i64_w, i32_w]
      rfl
     refine pure_ (i := 4) (N := some 59) (v := ?_) (a' := ?_) #[true, true, true, true, true, false, false, true, true, false, false, false, false, false, false] rfl rfl (any_of HT_.out (by kernel_rfl)) (fun _ _ _ h => h) (Or.inl ⟨by rfl, ?_⟩) ?_ ?_
     rotate_left
     ·intro w'
      go_simp
      with_reducible rfl
     rotate_left
     ·simp only [Act.put, List.setIfInBounds_toArray, List.set_cons_zero, List.set_cons_succ, i64_w, i32_w]
      rfl
     refine pure_ (i := 5) (N := some 60) (v := ?_) (a' := ?_) #[true, true, true, true, true, true, false, true, true, false, false, false, false, false, false] rfl rfl (any_of HT_.out (by kernel_rfl)) (fun _ _ _ h => h) (Or.inl ⟨by rfl, ?_⟩) ?_ ?_
     rotate_left
     ·intro w'
      go_simp
      with_reducible rfl
     rotate_left
     ·simp only [Act.put, List.setIfInBounds_toArray, List.set_cons_zero, List.set_cons_succ, i64_w, i32_w]
      rfl
     refine take_ (i := 6) (N := some 61) (v := ?_) (a' := ?_) #[true, true, true, true, true, true, true, true, true, false, false, false, false, false, false] rfl rfl (take_ofW HT_.out HW_.out (by kernel_rfl)) (fun _ _ _ h => h) (Or.inl ⟨by rfl, ?_⟩) hHeld ?_ ?_
     rotate_left
     ·rintro w' ⟨s0, s1, s2, s3⟩
      go_simp
      with_reducible rfl
     rotate_left
     ·simp only [Act.put, List.setIfInBounds_toArray, List.set_cons_zero, List.set_cons_succ, i64_w, i32_w]
      rfl
     refine take_ (i := 9) (N := some 64) (v := ?_) (a' := ?_) #[true, true, true, true, true, true, true, true, true, true, false, false, false, false, false] rfl rfl (take_ofW HT_.out HW_.out (by kernel_rfl)) (fun _ _ _ h => h) (Or.inl ⟨by rfl, ?_⟩) hHeld ?_ ?_
     rotate_left
     ·rintro w' ⟨s0, s1, s2, s3⟩
      go_simp
      with_reducible rfl
     rotate_left
     ·simp only [Act.put, List.setIfInBounds_toArray, List.set_cons_zero, List.set_cons_succ, i64_w, i32_w]
      rfl
     refine pure_ (i := 10) (N := some 65) (v := ?_) (a' := ?_) #[true, true, true, true, true, true, true, true, true, true, true, false, false, false, false] rfl rfl (any_of HT_.out (by kernel_rfl)) (fun _ _ _ h => h) (Or.inl ⟨by rfl, ?_⟩) ?_ ?_
     rotate_left
     ·intro w'
      go_simp
      with_reducible rfl
     rotate_left
     ·simp only [Act.put, List.setIfInBounds_toArray, List.set_cons_zero, List.set_cons_succ, i64_w, i32_w]
      rfl
     refine pure_ (i := 11) (N := some 66) (v := ?_) (a' := ?_) #[true, true, true, true, true, true, true, true, true, true, true, true, false, false, false] rfl rfl (any_of HT_.out (by kernel_rfl)) (fun _ _ _ h => h) (Or.inl ⟨by rfl, ?_⟩) ?_ ?_
     rotate_left
     ·intro w'
      go_simp
      with_reducible rfl
     rotate_left
     ·simp only [Act.put, List.setIfInBounds_toArray, List.set_cons_zero, List.set_cons_succ, i64_w, i32_w]
      rfl
     refine pure_ (i := 12) (N := some 67) (v := ?_) (a' := ?_) #[true, true, true, true, true, true, true, true, true, true, true, true, true, false, false] rfl rfl (any_of HT_.out (by kernel_rfl)) (fun _ _ _ h => h) (Or.inl ⟨by rfl, ?_⟩) ?_ ?_
     rotate_left
     ·intro w'
      go_simp
      with_reducible rfl
     rotate_left
     ·simp only [Act.put, List.setIfInBounds_toArray, List.set_cons_zero, List.set_cons_succ, i64_w, i32_w]
      rfl
     refine pure_ (i := 13) (N := some 68) (v := ?_) (a' := ?_) #[true, true, true, true, true, true, true, true, true, true, true, true, true, true, false] rfl rfl (any_of HT_.out (by kernel_rfl)) (fun _ _ _ h => h) (Or.inl ⟨by rfl, ?_⟩) ?_ ?_
     rotate_left
     ·intro w'
      go_simp
      with_reducible rfl
     rotate_left
     ·simp only [Act.put, List.setIfInBounds_toArray, List.set_cons_zero, List.set_cons_succ, i64_w, i32_w]
      rfl
     refine last_ (i := 14) (N := none) #[true, true, true, true, true, true, true, true, true, true, true, true, true, true, true] rfl rfl (one_of HT_.out (by kernel_rfl)) (by decide) (fun K hK => ?_)
     refine skip_ (w1 := ?_) (by rfl) rfl ?_ ?_
     rotate_left
     ·go_simp
      rfl
     refine hK.out _ _ ?_
     clear hK K
     refine done_ (done_of HT_.out (by kernel_rfl)) ?_
     go_upto_region 12 with (fail)
     go_cut [12] (fun v12 wc => ∃ (kq : Nat) (x12_115 : Bool), v12 = .bool x12_115 ∧ Aside0 (stillagelaw01_CrcTells.j8 kq l0 l2 (IntKind.u64.wrap (wrap64 (8 * (l0.length : Int)))) t113 y132 2 x12_115 2 a1_0 a1_1 a1_2 x121000_2 x121001_2 (wrap64 (Int.tmod (IntKind.u64.wrap a1_2) (IntKind.u64.wrap (wrap64 (8 * (l0.length : Int)))))) = some r) ∧ Aside0 (kq ≤ k2) ∧ Aside0 (Kd.R (Kd.int .u8) 5 wc w.heap.size (fun _ => True) (.slice (some ⟨go115, 0, none⟩) x9_2.length co123) y132) ∧ Aside0 (wc.heap[gb110]? = some (.cells #[.int .i64 a1_0, .int .i64 a1_1, .int .i64 a1_2] 44 (0, 0))) ∧ Aside0 (wc.heap[gb120]? = some (.cells #[.int .i64 x121000_2, .int .i64 x121001_2, .int .i64 (wrap64 (Int.tmod (IntKind.u64.wrap a1_2) (IntKind.u64.wrap (wrap64 (8 * (l0.length : Int))))))] 44 (0, 0))) ∧ Aside0 (Below w.heap.size w wc))
     case first =>
      have H := HC116.out
      clear HC116
      have c125 : ¬ (2 : Int) = 1 := by decide
      rw [if_neg (by decide)] at H
      have c125b0 : ((2 : Int) == 1) = false := beq_eq_false_iff_ne.mpr c125
      have c125b1 : ((2 : Int) != 1) = true := bne_iff_ne.mpr c125
      (first | rw [c125b0] | (simp only [i64_w, i32_w]; rw [c125b0]) | skip)
      have H' := Aside0.mk H
      clear H
      go_wp2
      go_meet
      case rel => exact ⟨_, (true), (by first | rfl | (simp; done) | (simp [*]; done)), H', ⟨by have := HJ3.out; have := HK2.out; first | omega | exact Nat.le_refl _⟩, ⟨by (with_reducible repeat (first | apply Kd.R_alloc | apply Kd.R_drewN | apply Kd.R_drew)); exact HQ124.out⟩, ⟨by (with_reducible repeat (first | refine blk_drewN ?_ _ | refine blk_drew ?_ | refine blk_alloc ?_ _)); refine blk_far ?_ (by have h_ := Kd.R_ne HO_9.out BK110.out (by decide); intro e_; exact h_ (by rw [e_]; rfl)) _; (with_reducible repeat (first | refine blk_drewN ?_ _ | refine blk_drew ?_ | refine blk_alloc ?_ _)); exact BK110.out⟩, ⟨by (with_reducible repeat (first | refine blk_drewN ?_ _ | refine blk_drew ?_ | refine blk_alloc ?_ _)); refine blk_far ?_ (by have h_ := Kd.R_ne HO_9.out BK120.out (by decide); intro e_; exact h_ (by rw [e_]; rfl)) _; (with_reducible repeat (first | refine blk_drewN ?_ _ | refine blk_drew ?_ | refine blk_alloc ?_ _)); exact BK120.out⟩, ⟨by repeat (first | (with_reducible first | exact HB.out | apply below_alloc | apply pw_below_drewN | apply below_drew1 | refine below_set ?_ GB115.out | refine below_set ?_ GE110.out | refine below_set ?_ GE120.out) | exact HB.out)⟩⟩
     case rest =>
      clear HC116
      obtain ⟨kq, x12_115, rfl, HA, HJ115, HO_9, BK110, BK120, HB⟩ := hcut
      have hl9_115 := (Kd.R_reads' HO_9.out).1
      rw [hl9_115] at HO_9
      (try simp only [hl9_115])
      (try simp only [hl9_115] at BK110)
      (try simp only [hl9_115] at BK120)
      cases kq with
      | zero => exact absurd HA.out (by simp [stillagelaw01_CrcTells.j8])
      | succ kj115 =>
       have H := HA.out
       clear HA
       simp only [stillagelaw01_CrcTells.j8] at H
       have HC128 := Aside0.mk H
       clear H
       go_upto_region 13 with (fail)
       go_cut [100] (fun v100 wc => ∃ (kq : Nat) (x100_127 : Bool), v100 = .bool x100_127 ∧ Aside0 (stillagelaw01_CrcTells.j9 kq l0 l2 (IntKind.u64.wrap (wrap64 (8 * (l0.length : Int)))) t113 y132 2 x12_115 2 x100_127 a1_0 a1_1 a1_2 x121000_2 x121001_2 (wrap64 (Int.tmod (IntKind.u64.wrap a1_2) (IntKind.u64.wrap (wrap64 (8 * (l0.length : Int)))))) = some r) ∧ Aside0 (kq ≤ kj115) ∧ Aside0 (Kd.R (Kd.int .u8) 5 wc w.heap.size (fun _ => True) (.slice (some ⟨go115, 0, none⟩) y132.length co123) y132) ∧ Aside0 (wc.heap[gb110]? = some (.cells #[.int .i64 a1_0, .int .i64 a1_1, .int .i64 a1_2] 44 (0, 0))) ∧ Aside0 (wc.heap[gb120]? = some (.cells #[.int .i64 x121000_2, .int .i64 x121001_2, .int .i64 (wrap64 (Int.tmod (IntKind.u64.wrap a1_2) (IntKind.u64.wrap (wrap64 (8 * (l0.length : Int))))))] 44 (0, 0))) ∧ Aside0 (Below w.heap.size w wc))
       case first =>
        have H := HC128.out
        clear HC128
        have c129 : (2 : Int) = 2 := by decide
        rw [if_pos (by decide)] at H
        have c129b0 : ((2 : Int) == 2) = true := beq_iff_eq.mpr c129
        have c129b1 : ((2 : Int) != 2) = false := bne_eq_false_iff_eq.mpr c129
        clear c129
        (first | rw [c129b0] | (simp only [i64_w, i32_w]; rw [c129b0]) | skip)
        by_cases c130 : x121000_2 = x121001_2
        ·rw [if_pos c130] at H
         have c130b0 : (x121000_2 == x121001_2) = true := beq_iff_eq.mpr c130
         have c130b1 : (x121000_2 != x121001_2) = false := bne_eq_false_iff_eq.mpr c130
         clear c130
         have H' := Aside0.mk H
         clear H
         have hnb131 := NB120_110.out
         have hnc131 := NB110_120.out
         have hcz132_0 : wc.cell? ⟨gb120, 0, none⟩ = some (.int .i64 x121000_2) := (blk_cell BK120.out 0).trans rfl
         have hcz132_1 : wc.cell? ⟨gb120, 1, none⟩ = some (.int .i64 x121001_2) := (blk_cell BK120.out 1).trans rfl
         have hcz132_2 : wc.cell? ⟨gb120, 2, none⟩ = some (.int .i64 (wrap64 (Int.tmod (IntKind.u64.wrap a1_2) (IntKind.u64.wrap (wrap64 (8 * (l0.length : Int))))))) := (blk_cell BK120.out 2).trans rfl
         have hfz132_0 := blk_frozen BK120.out 0
         have hfz132_1 := blk_frozen BK120.out 1
         have hfz132_2 := blk_frozen BK120.out 2
         go_wp2
         go_meet
         case rel => exact ⟨_, (false), (by first | rfl | (simp; done) | (simp [*]; done)), H', ⟨by have := HJ3.out; have := HK2.out; have := HJ115.out; first | omega | exact Nat.le_refl _⟩, ⟨by (try simp only [hl9_115]); (with_reducible repeat (first | apply Kd.R_alloc | apply Kd.R_drewN | apply Kd.R_drew)); exact HO_9.out⟩, ⟨by (try simp only [hl9_115]); (with_reducible repeat (first | refine blk_drewN ?_ _ | refine blk_drew ?_ | refine blk_alloc ?_ _)); exact BK110.out⟩, ⟨by (try simp only [hl9_115]); (with_reducible repeat (first | refine blk_drewN ?_ _ | refine blk_drew ?_ | refine blk_alloc ?_ _)); exact BK120.out⟩, ⟨by repeat (first | (with_reducible first | exact HB.out | apply below_alloc | apply pw_below_drewN | apply below_drew1 | refine below_set ?_ GE110.out | refine below_set ?_ GE120.out) | exact HB.out)⟩⟩
        rw [if_neg c130] at H
        have c130b0 : (x121000_2 == x121001_2) = false := beq_eq_false_iff_ne.mpr c130
        have c130b1 : (x121000_2 != x121001_2) = true := bne_iff_ne.mpr c130
        by_cases c133 : (wrap64 (Int.tmod (IntKind.u64.wrap a1_2) (IntKind.u64.wrap (wrap64 (8 * (l0.length : Int)))))) = x121000_2
        ·rw [if_pos c133] at H
         have c133b0 : ((wrap64 (Int.tmod (IntKind.u64.wrap a1_2) (IntKind.u64.wrap (wrap64 (8 * (l0.length : Int)))))) == x121000_2) = true := beq_iff_eq.mpr c133
         have c133b1 : ((wrap64 (Int.tmod (IntKind.u64.wrap a1_2) (IntKind.u64.wrap (wrap64 (8 * (l0.length : Int)))))) != x121000_2) = false := bne_eq_false_iff_eq.mpr c133
         (try (have c133z0 := c133b0; simp only [hl9_115] at c133z0))
         (try (have c133z1 := c133b1; simp only [hl9_115] at c133z1))
         clear c133
         have H' := Aside0.mk H
         clear H
         have hnb134 := NB120_110.out
         have hnc134 := NB110_120.out
         have hcz135_0 : wc.cell? ⟨gb120, 0, none⟩ = some (.int .i64 x121000_2) := (blk_cell BK120.out 0).trans rfl
         have hcz135_1 : wc.cell? ⟨gb120, 1, none⟩ = some (.int .i64 x121001_2) := (blk_cell BK120.out 1).trans rfl
         have hcz135_2 : wc.cell? ⟨gb120, 2, none⟩ = some (.int .i64 (wrap64 (Int.tmod (IntKind.u64.wrap a1_2) (IntKind.u64.wrap (wrap64 (8 * (l0.length : Int))))))) := (blk_cell BK120.out 2).trans rfl
         have hfz135_0 := blk_frozen BK120.out 0
         have hfz135_1 := blk_frozen BK120.out 1
         have hfz135_2 := blk_frozen BK120.out 2
         go_wp2
         go_meet
         case rel => exact ⟨_, (true), (by first | rfl | (simp; done) | (simp [*]; done)), H', ⟨by have := HJ3.out; have := HK2.out; have := HJ115.out; first | omega | exact Nat.le_refl _⟩, ⟨by (try simp only [hl9_115]); (with_reducible repeat (first | apply Kd.R_alloc | apply Kd.R_drewN | apply Kd.R_drew)); exact HO_9.out⟩, ⟨by (try simp only [hl9_115]); (with_reducible repeat (first | refine blk_drewN ?_ _ | refine blk_drew ?_ | refine blk_alloc ?_ _)); exact BK110.out⟩, ⟨by (try simp only [hl9_115]); (with_reducible repeat (first | refine blk_drewN ?_ _ | refine blk_drew ?_ | refine blk_alloc ?_ _)); exact BK120.out⟩, ⟨by repeat (first | (with_reducible first | exact HB.out | apply below_alloc | apply pw_below_drewN | apply below_drew1 | refine below_set ?_ GE110.out | refine below_set ?_ GE120.out) | exact HB.out)⟩⟩
        rw [if_neg c133] at H
        have c133b0 : ((wrap64 (Int.tmod (IntKind.u64.wrap a1_2) (IntKind.u64.wrap (wrap64 (8 * (l0.length : Int)))))) == x121000_2) = false := beq_eq_false_iff_ne.mpr c133
        have c133b1 : ((wrap64 (Int.tmod (IntKind.u64.wrap a1_2) (IntKind.u64.wrap (wrap64 (8 * (l0.length : Int)))))) != x121000_2) = true := bne_iff_ne.mpr c133
        (try (have c133z0 := c133b0; simp only [hl9_115] at c133z0))
        (try (have c133z1 := c133b1; simp only [hl9_115] at c133z1))
        have H' := Aside0.mk H
        clear H
        have hnb136 := NB120_110.out
        have hnc136 := NB110_120.out
        have hcz137_0 : wc.cell? ⟨gb120, 0, none⟩ = some (.int .i64 x121000_2) := (blk_cell BK120.out 0).trans rfl
        have hcz137_1 : wc.cell? ⟨gb120, 1, none⟩ = some (.int .i64 x121001_2) := (blk_cell BK120.out 1).trans rfl
        have hcz137_2 : wc.cell? ⟨gb120, 2, none⟩ = some (.int .i64 (wrap64 (Int.tmod (IntKind.u64.wrap a1_2) (IntKind.u64.wrap (wrap64 (8 * (l0.length : Int))))))) := (blk_cell BK120.out 2).trans rfl
        have hfz137_0 := blk_frozen BK120.out 0
        have hfz137_1 := blk_frozen BK120.out 1
        have hfz137_2 := blk_frozen BK120.out 2
        go_wp2
        go_meet
        case rel => exact ⟨_, (((wrap64 (Int.tmod (IntKind.u64.wrap a1_2) (IntKind.u64.wrap (wrap64 (8 * (l0.length : Int)))))) == x121001_2)), (by first | rfl | (simp; done) | (simp [*]; done)), H', ⟨by have := HJ3.out; have := HK2.out; have := HJ115.out; first | omega | exact Nat.le_refl _⟩, ⟨by (try simp only [hl9_115]); (with_reducible repeat (first | apply Kd.R_alloc | apply Kd.R_drewN | apply Kd.R_drew)); exact HO_9.out⟩, ⟨by (try simp only [hl9_115]); (with_reducible repeat (first | refine blk_drewN ?_ _ | refine blk_drew ?_ | refine blk_alloc ?_ _)); exact BK110.out⟩, ⟨by (try simp only [hl9_115]); (with_reducible repeat (first | refine blk_drewN ?_ _ | refine blk_drew ?_ | refine blk_alloc ?_ _)); exact BK120.out⟩, ⟨by repeat (first | (with_reducible first | exact HB.out | apply below_alloc | apply pw_below_drewN | apply below_drew1 | refine below_set ?_ GE110.out | refine below_set ?_ GE120.out) | exact HB.out)⟩⟩
       case rest =>
        clear HC128
        obtain ⟨kq, x100_127, rfl, HA, HJ127, HO_9, BK110, BK120, HB⟩ := hcut
        cases kq with
        | zero => exact absurd HA.out (by simp [stillagelaw01_CrcTells.j9])
        | succ kj127 =>
         have H := HA.out
         clear HA
         simp only [stillagelaw01_CrcTells.j9] at H
         have HC138 := Aside0.mk H
         clear H
         go_upto_if 100 with (fail)
         go_cut [12] (fun v12 wc => ∃ (kq : Nat) (x12_137 : Bool), v12 = .bool x12_137 ∧ Aside0 (stillagelaw01_CrcTells.j10 kq l0 l2 (IntKind.u64.wrap (wrap64 (8 * (l0.length : Int)))) t113 y132 2 x12_137 2 a1_0 a1_1 a1_2 x121000_2 x121001_2 (wrap64 (Int.tmod (IntKind.u64.wrap a1_2) (IntKind.u64.wrap (wrap64 (8 * (l0.length : Int)))))) = some r) ∧ Aside0 (kq ≤ kj127) ∧ Aside0 (Kd.R (Kd.int .u8) 5 wc w.heap.size (fun _ => True) (.slice (some ⟨go115, 0, none⟩) y132.length co123) y132) ∧ Aside0 (wc.heap[gb110]? = some (.cells #[.int .i64 a1_0, .int .i64 a1_1, .int .i64 a1_2] 44 (0, 0))) ∧ Aside0 (wc.heap[gb120]? = some (.cells #[.int .i64 x121000_2, .int .i64 x121001_2, .int .i64 (wrap64 (Int.tmod (IntKind.u64.wrap a1_2) (IntKind.u64.wrap (wrap64 (8 * (l0.length : Int))))))] 44 (0, 0))) ∧ Aside0 (Below w.heap.size w wc))
         case first =>
          have H := HC138.out
          clear HC138
          by_cases c139 : x100_127 = true
          ·subst c139
           have H1 : (stillagelaw01_CrcTells.j10 kj127 l0 l2 (IntKind.u64.wrap (wrap64 (8 * (l0.length : Int)))) t113 y132 2 true 2 a1_0 a1_1 a1_2 x121000_2 x121001_2 (wrap64 (Int.tmod (IntKind.u64.wrap a1_2) (IntKind.u64.wrap (wrap64 (8 * (l0.length : Int))))))) = some r := by rw [if_pos rfl] at H; exact H
           clear H
           have H := H1
           clear H1
           have H' := Aside0.mk H
           clear H
           go_wp2
           go_meet
           case rel => exact ⟨_, (true), (by first | rfl | (simp; done) | (simp [*]; done)), H', ⟨by have := HJ3.out; have := HK2.out; have := HJ115.out; have := HJ127.out; first | omega | exact Nat.le_refl _⟩, ⟨by (try simp only [hl9_115]); (with_reducible repeat (first | apply Kd.R_alloc | apply Kd.R_drewN | apply Kd.R_drew)); exact HO_9.out⟩, ⟨by (try simp only [hl9_115]); (with_reducible repeat (first | refine blk_drewN ?_ _ | refine blk_drew ?_ | refine blk_alloc ?_ _)); exact BK110.out⟩, ⟨by (try simp only [hl9_115]); (with_reducible repeat (first | refine blk_drewN ?_ _ | refine blk_drew ?_ | refine blk_alloc ?_ _)); exact BK120.out⟩, ⟨by repeat (first | (with_reducible first | exact HB.out | apply below_alloc | apply pw_below_drewN | apply below_drew1 | refine below_set ?_ GE110.out | refine below_set ?_ GE120.out) | exact HB.out)⟩⟩
          replace c139 := Bool.eq_false_iff.mpr c139
          subst c139
          have H1 : (stillagelaw01_CrcTells.j10 kj127 l0 l2 (IntKind.u64.wrap (wrap64 (8 * (l0.length : Int)))) t113 y132 2 x12_115 2 a1_0 a1_1 a1_2 x121000_2 x121001_2 (wrap64 (Int.tmod (IntKind.u64.wrap a1_2) (IntKind.u64.wrap (wrap64 (8 * (l0.length : Int))))))) = some r := by rw [if_neg (show ¬ (false = true) by decide)] at H; exact H
          clear H
          have H := H1
          clear H1
          have H' := Aside0.mk H
          clear H
          go_wp2
          go_meet
          case rel => exact ⟨_, (x12_115), (by first | rfl | (simp; done) | (simp [*]; done)), H', ⟨by have := HJ3.out; have := HK2.out; have := HJ115.out; have := HJ127.out; first | omega | exact Nat.le_refl _⟩, ⟨by (try simp only [hl9_115]); (with_reducible repeat (first | apply Kd.R_alloc | apply Kd.R_drewN | apply Kd.R_drew)); exact HO_9.out⟩, ⟨by (try simp only [hl9_115]); (with_reducible repeat (first | refine blk_drewN ?_ _ | refine blk_drew ?_ | refine blk_alloc ?_ _)); exact BK110.out⟩, ⟨by (try simp only [hl9_115]); (with_reducible repeat (first | refine blk_drewN ?_ _ | refine blk_drew ?_ | refine blk_alloc ?_ _)); exact BK120.out⟩, ⟨by repeat (first | (with_reducible first | exact HB.out | apply below_alloc | apply pw_below_drewN | apply below_drew1 | refine below_set ?_ GE110.out | refine below_set ?_ GE120.out) | exact HB.out)⟩⟩
         case rest =>
          clear HC138
          obtain ⟨kq, x12_137, rfl, HA, HJ137, HO_9, BK110, BK120, HB⟩ := hcut
          cases kq with
          | zero => exact absurd HA.out (by simp [stillagelaw01_CrcTells.j10])
          | succ kj137 =>
           have H := HA.out
           clear HA
           simp only [stillagelaw01_CrcTells.j10] at H
           replace H := Option.bind_eq_some_iff.mp H
           obtain ⟨t133, A1400, H⟩ := H
           replace H : (if ((t133 != t113) != x12_137) = true then (some false) else (if 2 = 0 then ((crc_Find.f kj137 y132 t113).bind fun bt134 => (if bt134.2 = 0 then (if bt134.1 = x121000_2 then (stillagelaw01_CrcTells.l0 kj137 l0 l2 (IntKind.u64.wrap (wrap64 (8 * (l0.length : Int)))) t113 y132 (wrap64 (2 + 1)) a1_0 a1_1 a1_2 x121000_2 x121001_2 (wrap64 (Int.tmod (IntKind.u64.wrap a1_2) (IntKind.u64.wrap (wrap64 (8 * (l0.length : Int))))))) else (some false)) else (some false))) else (stillagelaw01_CrcTells.l0 kj137 l0 l2 (IntKind.u64.wrap (wrap64 (8 * (l0.length : Int)))) t113 y132 (wrap64 (2 + 1)) a1_0 a1_1 a1_2 x121000_2 x121001_2 (wrap64 (Int.tmod (IntKind.u64.wrap a1_2) (IntKind.u64.wrap (wrap64 (8 * (l0.length : Int))))))))) = some r := H
           have A140 := Aside0.mk A1400
           clear A1400
           by_cases c141 : ((t133 != t113) != x12_137) = true
           ·rw [if_pos c141] at H
            have c141b0 : ((t133 != t113) != x12_137) = true := c141
            (try (have c141b1 : decide ((t133 != t113) = x12_137) = false := by simpa using c141))
            (try (have c141b2 : ((t133 != t113) == x12_137) = false := by simpa using c141))
            (try (have c141b3 : ¬ ((t133 != t113) = x12_137) := by simpa using c141))
            clear c141
            obtain rfl := Option.some.inj H
            go_wp2_with (first | ((with_reducible refine gate_callee (f := 14) rfl ?_); refine goesL_ (some 102) rfl rfl Try.func14 (by kernel_rfl) rfl #[.slice (some ⟨go115, 0, none⟩) y132.length co123] rfl (by (try simp only [List.map_toArray, List.map_cons, List.map_nil]); first | done | rfl | (simp only [List.length_drop, List.length_take]; rfl)) ?_; (with_reducible refine (crc_Sum.calls kj137 _ _ y132 t133 _ ?side1 ?side2 A140.out).mono ?_); (case side1 => repeat (first | exact (Kd.R_reads' HO_9.out).2.2 | (with_reducible refine Kd.C_alloc ?_ _) | (with_reducible refine Kd.C_drewN ?_ _) | (with_reducible refine Kd.C_drew ?_))); (case side2 => exact (Kd.R_reads' HO_9.out).2.1); rintro e w' ⟨rfl, ⟨nd, rfl⟩⟩; refine ⟨_, rfl, ?_⟩))
            go_ret
            exact ⟨by first | rfl | (simp [errW_none, errW_some] <;> rfl) | (simp only [← hji109, ← hji112, ← hji114]; first | rfl | (simp [errW_none, errW_some] <;> rfl)) | (simp [*, errW_none, errW_some] <;> rfl), by repeat (first | (with_reducible first | exact HB.out | apply below_alloc | apply pw_below_drewN | apply below_drew1 | refine below_set ?_ GE110.out | refine below_set ?_ GE120.out) | exact HB.out)⟩
           rw [if_neg c141] at H
           have c141b0 : ((t133 != t113) != x12_137) = false := by simpa using c141
           (try (have c141b1 : decide ((t133 != t113) = x12_137) = true := by simpa using c141))
           (try (have c141b2 : ((t133 != t113) == x12_137) = true := by simpa using c141))
           clear c141
           have c142 : ¬ (2 : Int) = 0 := by decide
           rw [if_neg (by decide)] at H
           have c142b0 : ((2 : Int) == 0) = false := beq_eq_false_iff_ne.mpr c142
           have c142b1 : ((2 : Int) != 0) = true := bne_iff_ne.mpr c142
           have H' := Aside0.mk H
           clear H
           go_wp2_with (first | ((with_reducible refine gate_callee (f := 14) rfl ?_); refine goesL_ (some 102) rfl rfl Try.func14 (by kernel_rfl) rfl #[.slice (some ⟨go115, 0, none⟩) y132.length co123] rfl (by (try simp only [List.map_toArray, List.map_cons, List.map_nil]); first | done | rfl | (simp only [List.length_drop, List.length_take]; rfl)) ?_; (with_reducible refine (crc_Sum.calls kj137 _ _ y132 t133 _ ?side1 ?side2 A140.out).mono ?_); (case side1 => repeat (first | exact (Kd.R_reads' HO_9.out).2.2 | (with_reducible refine Kd.C_alloc ?_ _) | (with_reducible refine Kd.C_drewN ?_ _) | (with_reducible refine Kd.C_drew ?_))); (case side2 => exact (Kd.R_reads' HO_9.out).2.1); rintro e w' ⟨rfl, ⟨nd, rfl⟩⟩; refine ⟨_, rfl, ?_⟩))
           (try simp only [← hl9_115])
           go_roundg kj137
           case measure => have := HJ3.out; have := HK2.out; have := HJ115.out; have := HJ127.out; have := HJ137.out; omega
           case rel => exact ⟨(y132), (wrap64 (2 + 1)), (x121000_2), (x121001_2), ((wrap64 (Int.tmod (IntKind.u64.wrap a1_2) (IntKind.u64.wrap (wrap64 (8 * (l0.length : Int))))))), (by first | rfl | (simp; done) | (simp [*]; done) | (simp; unfold wrap64; omega)), H', ⟨by have := HJ3.out; have := HK2.out; have := HJ115.out; have := HJ127.out; have := HJ137.out; omega⟩, ⟨by (try simp only [hl9_115]); (with_reducible repeat (first | apply Kd.R_alloc | apply Kd.R_drewN | apply Kd.R_drew)); exact HO_9.out⟩, ⟨by (try simp only [hl9_115]); (with_reducible repeat (first | refine blk_drewN ?_ _ | refine blk_drew ?_ | refine blk_alloc ?_ _)); exact BK110.out⟩, ⟨by (try simp only [hl9_115]); (with_reducible repeat (first | refine blk_drewN ?_ _ | refine blk_drew ?_ | refine blk_alloc ?_ _)); exact BK120.out⟩, ⟨by repeat (first | (with_reducible first | exact HB.out | apply below_alloc | apply pw_below_drewN | apply below_drew1 | refine below_set ?_ GE110.out | refine below_set ?_ GE120.out) | exact HB.out)⟩⟩
end Go.Proofs.Ytpcgjnjgenfhiaa.PCrcTells
