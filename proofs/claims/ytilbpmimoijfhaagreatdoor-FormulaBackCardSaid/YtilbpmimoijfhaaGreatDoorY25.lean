/- A natural as binary64 in the program. -/
import Derived.Test.YtilbpmimoijfhaaGreatDoorY23
namespace Go.Proofs.YtilbpmimoijfhaaGreatDoor
set_option linter.all false
set_option maxRecDepth 100000
set_option maxHeartbeats 16000000
open Go.RowKit Go.Proofs.Tryz
def yu8 (v:Nat) (w:World) (hv:v<9223372036854775808):Calls prog 256 #[.int .i64 v] w (RetB (.int .u64 v) w):=by
 go_enter func256,ntmps256
 go_wp2
 go_ret
 exact qO
def yfV (v:Nat) (w:World) (hv:v<9223372036854775808):Calls prog 225 #[.int .i64 v] w (RetB (.int .u64 ((Fl.rd v 0 false:Nat):Int)) w):=by
 have H1:=aL (fun w1=>yu8 v w1 hv);have a:=fun w1=>ycT false 0 v 0 false w1 aG aG aG;rw[qo,iR,show Fl.sgn false=0 from rfl,iR] at a;obtain⟨R,b⟩:=bx (Fl.rd v 0 false);rw[<-b] at a ⊢;have H2:=aL (fun w1=>(show Calls prog 255 #[.bool false,.agg #[.int .u64 0,.int .u64 v],.int .i64 0,.bool false] w1 (RetB (.int .u64 (R:Nat)) w1) from a w1));have d:decide ((v:Int)<0)=false:=eL aG;clear a b;go_enter func225,ntmps225
 go_wp2_with (first|(go_at_call 256;refine Ls ?_;refine wv ?_;intro w1 ab ao ay az af)|(go_at_call 255;refine xu ?_;refine wv ?_;intro c f j g i e))
 go_ret
 exact qO
end Go.Proofs.YtilbpmimoijfhaaGreatDoor
