/- Contracts of the small functions: four bytes of a number, in the program and in the reference. -/
import Derived.Test.YtncdnopnjdbleaaRows
import Derived.Test.YtncdnopnjdbleaaDa
import Derived.WalkKit
import Derived.WalkSpells
import Derived.WalkLawsBesides
import Derived.Lib.Hide
import Derived.Outline
namespace Go.Proofs.Ytncdnopnjdbleaa
open Go.RowKit Hach

/- 'string(..)' of four new bytes -/
theorem conv4 (a b c d : Nat) (w : World) :
    (convert 32 9 (.slice (some ⟨w.heap.size, 0, none⟩) 4 4)).run Try.prog (w.alloc (.cells #[.int .u8 (a : Nat), .int .u8 (b : Nat), .int .u8 (c : Nat), .int .u8 (d : Nat)] 5)) =
      .ok (.string ⟨#[UInt8.ofNat a, UInt8.ofNat b, UInt8.ofNat c, UInt8.ofNat d]⟩) (w.alloc (.cells #[.int .u8 (a : Nat), .int .u8 (b : Nat), .int .u8 (c : Nat), .int .u8 (d : Nat)] 5)) := by
  have h := run_convert_bytes_arg (P := Try.prog) (w.alloc (.cells #[.int .u8 (a : Nat), .int .u8 (b : Nat), .int .u8 (c : Nat), .int .u8 (d : Nat)] 5)) 32 5 Try.underlying32 Try.underlying5 w.heap.size 0 4 4 [(a : Int), b, c, d] rfl (by
    intro i hi
    rw [World.cell?_alloc_new]
    match i, hi with
    | 0, _ => rfl
    | 1, _ => rfl
    | 2, _ => rfl
    | 3, _ => rfl) 9 Try.underlying9
  rw [h]
  simp [strOfNums]
theorem ofNat_mod (x : Nat) : UInt8.ofNat (x % 256) = UInt8.ofNat x := UInt8.toNat_inj.1 (by simp)
theorem b4_mod (n : Nat) : (⟨#[UInt8.ofNat (n / 16777216), UInt8.ofNat (n / 65536 % 256), UInt8.ofNat (n / 256 % 256), UInt8.ofNat (n % 256)]⟩ : ByteArray) = b4 n := by
  rw [ofNat_mod, ofNat_mod, ofNat_mod]; rfl
set_option maxHeartbeats 400000 in
theorem bytes4_any (n : Nat) (w : World) (h : n < 4294967296) :
    Calls Try.prog 33 #[.int .i64 n] w fun e w' => e = .returned (.string (b4 n)) ∧ Below w.heap.size w w' := by
  have hc := conv4 (n / 16777216) (n / 65536 % 256) (n / 256 % 256) (n % 256) w
  rw [b4_mod n] at hc
  simp only [Int.natCast_ediv, Int.natCast_emod, Int.cast_ofNat_Int] at hc
  go_enter Try.func33, Try.ntmps33
  go_wp2
  go_ret
  exact ⟨rfl, below_alloc _ _⟩
set_option maxHeartbeats 400000 in
theorem length_any (s : ByteArray) (w : World) (h : s.size < 4294967296) :
    Calls Try.prog 34 #[.string s] w fun e w' => e = .returned (.string (b4 s.size)) ∧ Below w.heap.size w w' := by
  have hc := conv4 (s.size / 16777216) (s.size / 65536 % 256) (s.size / 256 % 256) (s.size % 256) w
  rw [b4_mod s.size] at hc
  simp only [Int.natCast_ediv, Int.natCast_emod, Int.cast_ofNat_Int] at hc
  go_enter Try.func34, Try.ntmps34
  go_wp2
  go_ret
  exact ⟨rfl, below_alloc _ _⟩
end Go.Proofs.Ytncdnopnjdbleaa
