/- The walk of the law CrcBytes: it returns true for every slice of bytes. -/
import Derived.Test.YthdbjnlgcbmocaaRead
namespace Go.Proofs.Ythdbjnlgcbmocaa
open Go.RowKit

set_option maxHeartbeats 1000000 in
theorem crcBytes_walk (a0 : Option Addr) (len0 cap0 : Nat) (z0 : List Int) (w : World) (w0 : IsRow .u8 w a0 len0 cap0 z0) :
    Calls Try.prog 3 #[.slice a0 len0 cap0] w fun e w' => e = .returned (.bool true) ∧ Below w.heap.size w w' := by
  by_cases h : (2000 : Int) < (len0 : Int)
  · clear w0
    go_enter Try.func3, Try.ntmps3
    go_wp2
    go_ret
    exact ⟨rfl, Below.refl _ _⟩
  · have HB := Lib.hid (isrow_reads w0 (by omega))
    clear w0
    go_enter Try.func3, Try.ntmps3
    go_wp2_with fail
    refine (awake_x _).mono ?_
    rintro e w1 ⟨rfl, hw1⟩
    go_wp2_with fail
    refine (bytes_x _ _ _ _ _ (HB.out.more hw1)).mono ?_
    rintro e w2 ⟨rfl, hw2⟩
    go_wp2_with fail
    refine (refbytes_x _ _ _ _ _ ((HB.out.more hw1).more hw2)).mono ?_
    rintro e w3 ⟨rfl, rfl⟩
    go_wp2
    go_ret
    exact ⟨rfl, hw1.trans (hw2.mono hw1.size)⟩
end Go.Proofs.Ythdbjnlgcbmocaa
