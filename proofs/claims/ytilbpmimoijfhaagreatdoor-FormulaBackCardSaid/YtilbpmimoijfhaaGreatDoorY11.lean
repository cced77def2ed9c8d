/- sync.Once in one goroutine: the lock free, nobody waiting: the parts. -/
import Derived.Test.YtilbpmimoijfhaaGreatDoorY3
namespace Go.Proofs.YtilbpmimoijfhaaGreatDoor
set_option linter.all false
set_option maxRecDepth 100000
set_option maxHeartbeats 16000000
open Go.RowKit Go.Proofs.Tryz
def yl4 (w:World):(callFunc 303 #[]).run prog w= .ok (.value (.tuple #[])) w:=run_call_mark0 func303 cI cI cI .disable cI w
def ygz (w:World):(callFunc 305 #[]).run prog w= .ok (.value (.tuple #[])) w:=run_call_mark0 func305 cI cI cI .enable cI w
def ywx (a:Addr) (w:World):(callFunc 306 #[.pointer (some a)]).run prog w= .ok (.value (.tuple #[])) w:=run_call_marked func306 cI cI cI .acquire cI a w
def ysB (a:Addr) (w:World):(callFunc 308 #[.pointer (some a)]).run prog w= .ok (.value (.tuple #[])) w:=run_call_marked func308 cI cI cI .releaseMerge cI a w
def yuq (a:Addr) (x:Value) (u:FrameMode) (w:World) (f:w.cell? a=some x) (hz:w.frozen? a=false):
 CallsD prog 298 #[.pointer (some a),.bool true] u w fun e b w'=>b=u/\(e= .returned (.tuple #[])/\w'=w.drew.setCell a (.int .u32 1)):=by
 have c:w.drew.cell? a=some x:=by go_simp
 have d:w.drew.frozen? a=false:=by go_simp
 have g:=run_call_store (P:=prog) func301 cI cI cI cI (k:= .u32) (y:=1) c d;go_enter_d func298,ntmps298
 go_wp2
 go_region_calls
 all_goals(go_end0;exact⟨rfl,rfl⟩)
def ypF (a:Addr) (u:FrameMode) (w:World) (b:w.cell? a=some (.int .i32 1)) (hz:w.frozen? a=false):
 CallsD prog 297 #[.pointer (some a)] u w fun e c w'=>c=u/\(e= .returned (.tuple #[])/\w'=w.setCell a (.int .i32 0)):=by
 have hd:=yl4;have g:=ygz;have f:=ysB;have d:=run_call_add (P:=prog) func309 cI cI cI .i32 cI (y:= -1) (s:=0) b hz (by simp[go_sem];rfl);have i:=ykf (P:=prog) (src:=327) (dst:=174) underlying327 underlying174 cI b;go_enter_d func297,ntmps297
 go_wp2
 go_end0
 go_wp2
 go_end0
 exact⟨rfl,rfl⟩
def ysp (a:Addr) (w:World) (b:w.cell? a=some (.int .i32 0)) (hz:w.frozen? a=false):
 Calls prog 296 #[.pointer (some a)] w fun e w'=>e= .returned (.tuple #[])/\w'=w.setCell a (.int .i32 1):=by
 have hd:=yl4;have f:=ygz;have g:=ywx;have d:=run_call_cas_hit (P:=prog) func304 cI cI cI .i32 cI (y:=1) b hz;have c:(w.setCell a (.int .i32 1)).cell? a=some (.int .i32 1):=yE w a _ b;have i:=ykf (P:=prog) (src:=327) (dst:=174) underlying327 underlying174 cI c;go_enter func296,ntmps296
 go_wp2
 first|go_end0|(simp only[Exit.inBlock,Exit.then];refine eB (Hl rfl _ _ _) rfl ?_)|refine eB (Hl rfl _ _ _) rfl ?_
 go_wp2
 go_end0
 exact⟨rfl,rfl⟩
def ye0 (a:Addr) (x:Nat) (b:Bool) (w:World) (c:w.cell? a=some (.int .u32 x)) (hb:((x:Int) != 0)=b):
 Calls prog 288 #[.pointer (some a)] w (Ret0 (.bool b) w):=by
 have hl:=run_call_load (P:=prog) func295 cI cI cI .u32 cI (w:=w) (a:=a) (x:=x) c;go_enter func288,ntmps288
 exact yj
def yvj (b o F:Nat) (i:Array Value) (w:World) (Q:World->Prop) (m:w.cell? ⟨b,o,none⟩=some (.int .u32 0)) (u:w.cell? ⟨b,o+1,none⟩=some (.int .i32 0)) (l: ∀ o,w.frozen? ⟨b,o,none⟩=false)
 (t:F=278)
 (j:Calls prog 278 i (w.setCell ⟨b,o+1,none⟩ (.int .i32 1)) fun e w'=>e= .returned (.tuple #[])/\Q w'/\w'.cell? ⟨b,o,none⟩=some (.int .u32 0)/\w'.cell? ⟨b,o+1,none⟩=some (.int .i32 1)/\ ∀ o,w'.frozen? ⟨b,o,none⟩=false):
 Calls prog 289 #[.pointer (some ⟨b,o,none⟩),.func (.func 278) #[] i] w fun e w'=>e= .returned (.tuple #[])/\ ∃ a,Q a/\w'=(a.drew.setCell ⟨b,o,none⟩ (.int .u32 1)).setCell ⟨b,o+1,none⟩ (.int .i32 0):=by
 have d:=ye0 ⟨b,o,none⟩ 0 false (w.setCell ⟨b,o+1,none⟩ (.int .i32 1)) ((tt _ ⟨b,o+1,none⟩ ⟨b,o,none⟩ _ cn).trans m) rfl;have s:=aL d;clear d;have v:=l (o+1);have c:=aL j;clear j;go_enter_defers func289,ntmps289
 go_wp2_with (go_at_call 296;refine(ysp ⟨b,o+1,none⟩ _ (by go_simp) (by go_simp)).mono ?_;rintro e w' ⟨rfl,rfl⟩)
 go_wp2_with (first|(go_at_call 288;refine(s.out).mono ?_;rintro e w' ⟨rfl,rfl⟩)|(go_at_call 278;refine(c.out).mono ?_;rintro e a ⟨rfl,hq,q,n,g⟩))
 trace_state
 -- the two deferred calls,the last laid first
 refine leaves_cons (f:=298) (args:= #[.pointer (some ⟨b,o,none⟩),.bool true]) cn Ci ?_;refine(yuq ⟨b,o,none⟩ (.int .u32 0) .returning _ q (g _)).mono ?_;rintro e k r ⟨rfl,rfl,rfl⟩;refine leaves_cons (f:=297) (args:= #[.pointer (some ⟨b,o+1,none⟩)]) (by simp[settle]) Ci ?_;refine(ypF ⟨b,o+1,none⟩ _ _ ?_ ?_).mono ?_
 ·refine(tt _ ⟨b,o,none⟩ ⟨b,o+1,none⟩ _ cn).trans ?_;rw[Rq];exact n
 ·rw[qj];exact g _
 rintro e k r ⟨rfl,rfl,rfl⟩;simp[Leaves,settle,results,results289];exact⟨a,hq,rfl⟩
end Go.Proofs.YtilbpmimoijfhaaGreatDoor
