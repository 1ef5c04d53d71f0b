/- Plain definitions and lemmas: bytes as cells, the checksum, lists of bytes. -/
import Derived.Test.YtpfnpinblbfjdaaRows
import Derived.WalkKit
import Derived.WalkSpells
import Derived.WalkLawsBesides
import Derived.Lib.Hide
namespace Go.Proofs.Ytpfnpinblbfjdaa
open Go.RowKit

/-- A byte as a cell. -/
def byteV (x : UInt8) : Value := .int .u8 x.toNat
/-- Bytes as cells. -/
def bytesL (l : List UInt8) : List Value := l.map byteV
abbrev bytesA (l : List UInt8) : Array Value := (bytesL l).toArray

theorem length_bytesL (l : List UInt8) : (bytesL l).length = l.length := by simp [bytesL]
theorem size_bytesA (l : List UInt8) : (bytesA l).size = l.length := by simp [bytesL]
theorem get_bytesL (l : List UInt8) (k : Nat) (h : k < l.length) : (bytesL l)[k]? = some (.int .u8 (l.getD k 0).toNat) := by
  simp [bytesL, byteV, h]
theorem getElem_bytesL (l : List UInt8) (k : Nat) (h : k < (bytesL l).length) : (bytesL l)[k] = .int .u8 (l.getD k 0).toNat := by
  have h' : k < l.length := by simpa [length_bytesL] using h
  have := get_bytesL l k h'
  rw [List.getElem?_eq_getElem h] at this
  exact Option.some.inj this
theorem byteV_inj {a b : UInt8} (h : byteV a = byteV b) : a = b := by
  simp only [byteV, Value.int.injEq, true_and] at h
  exact UInt8.toNat_inj.1 (by omega)
theorem bytesL_inj : ∀ {l m : List UInt8}, bytesL l = bytesL m → l = m
  | [], [], _ => rfl
  | [], _ :: _, h => by simp [bytesL] at h
  | _ :: _, [], h => by simp [bytesL] at h
  | a :: l, b :: m, h => by
    simp only [bytesL, List.map_cons, List.cons.injEq] at h
    rw [byteV_inj h.1, bytesL_inj (l := l) (m := m) h.2]
theorem oneCell_bytesL (l : List UInt8) : ∀ v ∈ bytesL l, v.oneCell' = true := by
  simp [bytesL, byteV, Value.oneCell']
theorem oneCell_bytesA (l : List UInt8) : (bytesA l).all (·.oneCell') = true := by
  simp [bytesL, byteV, Value.oneCell']
theorem bytesL_append (l m : List UInt8) : bytesL (l ++ m) = bytesL l ++ bytesL m := by simp [bytesL]
theorem bytesL_take (l : List UInt8) (k : Nat) : bytesL (l.take k) = (bytesL l).take k := by simp [bytesL]
theorem bytesL_drop (l : List UInt8) (k : Nat) : bytesL (l.drop k) = (bytesL l).drop k := by simp [bytesL]

/-- A number as a byte. -/
def toB (x : Int) : UInt8 := UInt8.ofNat (x % 256).toNat
theorem toB_toNat (x : Int) (h0 : 0 ≤ x) (h1 : x < 256) : ((toB x).toNat : Int) = x := by
  unfold toB
  rw [UInt8.toNat_ofNat']
  omega
theorem bytesL_set (l : List UInt8) (k : Nat) (x : Int) (h0 : 0 ≤ x) (h1 : x < 256) :
    (bytesL l).set k (.int .u8 x) = bytesL (l.set k (toB x)) := by
  simp only [bytesL, List.map_set, byteV, toB_toNat x h0 h1]

/-! the checksum -/
def crcBit (m : Int) : Int := bits .xor .u32 (m / 2) (bits .and .u32 3988292384 (-bits .and .u32 m 1 % 4294967296))
def crcBits : Nat → Int → Int
  | 0, m => m
  | k + 1, m => crcBit (crcBits k m)
def crcByte (n : Int) (x : UInt8) : Int := crcBits 8 (bits .xor .u32 n (x.toNat % 4294967296))
def crcOn (l : List UInt8) : Int := l.foldl crcByte 4294967295
def crc (l : List UInt8) : Int := bits .xor .u32 IntKind.u32.max (crcOn l)
theorem crcOn_snoc (l : List UInt8) (x : UInt8) : crcOn (l ++ [x]) = crcByte (crcOn l) x := by simp [crcOn]
theorem take_snoc (l : List UInt8) (k : Nat) (h : k < l.length) : l.take (k + 1) = l.take k ++ [l.getD k 0] := by
  rw [List.take_succ_eq_append_getElem h]; simp [h]
theorem ret_int {k : IntKind} {a b : Int} (h : a = b) : Ending.returned (.int k a) = .returned (.int k b) := by rw [h]
end Go.Proofs.Ytpfnpinblbfjdaa
