/- Joined texts: Bit. -/
import Derived.Lib.EndianBits
import Derived.Test.YtppchdinolndmaaGreatMBase
/- Bits of numbers. -/
namespace Go.Proofs.YtppchdinolndmaaGreat
open Go.RowKit
theorem u32_mask (i : Nat) (hi : i ≤ 32) {x : Int} (h0 : 0 ≤ x) (h1 : x < 4294967296) : bits .and .u32 x (2 ^ i - 1) = x % 2 ^ i := bits_mask .u32 32 (by decide) wraps_u32 i hi x h0 h1
theorem u32_and1023 {x : Int} (h0 : 0 ≤ x) (h1 : x < 4294967296) : bits .and .u32 x 1023 = x % 1024 := u32_mask 10 (by decide) h0 h1
theorem u32_orD800 {y : Int} (h0 : 0 ≤ y) (h1 : y < 1024) : bits .or .u32 55296 y = 55296 + y := bits_join .u32 32 (by decide) wraps_u32 10 55296 y (by decide) (by decide) (by decide) h0 h1 (by omega)
theorem u32_orDC00 {y : Int} (h0 : 0 ≤ y) (h1 : y < 1024) : bits .or .u32 56320 y = 56320 + y := bits_join .u32 32 (by decide) wraps_u32 10 56320 y (by decide) (by decide) (by decide) h0 h1 (by omega)
end Go.Proofs.YtppchdinolndmaaGreat
