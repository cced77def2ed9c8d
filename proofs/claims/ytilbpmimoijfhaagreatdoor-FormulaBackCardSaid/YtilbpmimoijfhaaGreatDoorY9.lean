/- The reference: Big, limb, Plus, Times, fits, Add, Mul, Twice, Shl, Pow, Bit, Shr. -/
import Derived.Test.YtilbpmimoijfhaaGreatDoorY3
namespace Go.Proofs.YtilbpmimoijfhaaGreatDoor
set_option linter.all false
set_option maxRecDepth 100000
set_option maxHeartbeats 16000000
open Go.RowKit Go.Proofs.Tryz
section
def yoI (w:World) (x:Nat) (hx:x<4294967296):Sl (w.alloc (.cells #[Value.int .u32 (x:Int)] 85)) (some ⟨w.heap.size,0,none⟩) 1 [x]:=by
 have d:Blk (w.alloc (.cells #[Value.int .u32 (x:Int)] 85)) w.heap.size [x]:=by show(w.heap.push _)[w.heap.size]? =_;simp[u32s]
 exact d.sl (fun y b=>by rw[SY.1 b];exact hx) cm
section
variable (a:Option Addr) (c:Nat) (l:List Nat) (n:Int) (w:World) (h:Sl w a c l) (hz:a=none->c=0) (hn:l.length<=100000) (hi: -9223372036854775808<=n/\n<=9223372036854775807)
include h hz hn hi
end
section
variable (a:Option Addr) (c:Nat) (l:List Nat) (n:Int) (w:World) (h:Sl w a c l) (hz:a=none->c=0) (hn:l.length<=100000) (hi: -9223372036854775808<=n/\n<=9223372036854775807)
include h hz hn hi
end
end
end Go.Proofs.YtilbpmimoijfhaaGreatDoor
