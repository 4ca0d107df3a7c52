/- LinkOnes: what the law's row needs: the arguments read out of memory. -/
import Derived.Test.YtfdjlicegfgodaaLk18
import Derived.Test.YtfdjlicegfgodaaOpen28
namespace Go.Proofs.Ytfdjlicegfgodaa
open Go.RowKit
theorem strs2 {B : Nat} {W : World} {l : List ByteArray} {v : Value} (h : SlB B W 1 StrAt l v) : SlB B W 1 StrAt2 l v := h
end Go.Proofs.Ytfdjlicegfgodaa
