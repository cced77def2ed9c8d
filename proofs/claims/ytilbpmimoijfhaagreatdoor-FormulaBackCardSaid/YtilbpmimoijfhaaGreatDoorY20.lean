/- Formulas: whether a node is right by itself, by the program (printed by gen/mkk4.py b). -/
import Derived.Test.YtilbpmimoijfhaaGreatDoorY14
namespace Go.Proofs.YtilbpmimoijfhaaGreatDoor
set_option linter.all false
set_option maxRecDepth 100000
set_option maxHeartbeats 16000000
open Go.RowKit Go.Proofs.Tryz
section
open Fx (Tr g8 sB)
def yjk (X:Nat) (T:ByteArray) (I:Bool) (F a1 a2:Int) (a3 a4:Bool) (b1 b2:Int) (b3 b4:Bool) (a:List Tr):g8 (.mk 6 X T.data.toList I F ⟨a1,a2,a3,a4⟩ ⟨b1,b2,b3,b4⟩ a)=
 (decide (a.length=0)&&(Ce.right ⟨a1,a2,a3,a4⟩&&(Ce.right ⟨b1,b2,b3,b4⟩&&(jY X 0 T ⟨#[]⟩ I false F 0 a1 a1 a2 a2 a3 a3 a4 a4 b1 b1 b2 b2 b3 b3 b4 b4)))):=by
 exact zu
def ywv (X:Nat) (T:ByteArray) (I:Bool) (F g f:Int) (e a4:Bool) (d b2:Int) (b a:Bool) (s:Option Addr) (m c:Nat) (L:List Tr) (w:World) (hm:m=L.length) (M:T.size<=9223372036854775807):Calls prog 43 #[.agg #[.int .i64 6,.int .u64 (X:Nat),.string T,.bool I,.int .i64 F,.int .i64 g,.int .i64 f,.bool e,.bool a4,.int .i64 d,.int .i64 b2,.bool b,.bool a,.slice s m c]] w (RetB (.bool (g8 (.mk 6 X T.data.toList I F ⟨g,f,e,a4⟩ ⟨d,b2,b,a⟩ L))) w):=by
 rw[yjk,<-hm];obtain⟨q,hq⟩:=bx (jY X 0 T ⟨#[]⟩ I false F 0 g g f f e e a4 a4 d d b2 b2 b b a a);rw[<-hq];obtain⟨K,l⟩: ∃ p,p=Ce.right ⟨g,f,e,a4⟩:=⟨_,rfl⟩;rw[<-l];obtain⟨J,j⟩: ∃ p,p=Ce.right ⟨d,b2,b,a⟩:=⟨_,rfl⟩;rw[<-j];obtain⟨r,hr⟩:=bx ((decide (m=0)&&(K&&(J&&q))));rw[<-hr];have hb: ∀ w:World,Calls prog 68 #[.agg #[.int .i64 6,.int .u64 (X:Nat),.string T,.bool I,.int .i64 F,.int .i64 g,.int .i64 f,.bool e,.bool a4,.int .i64 d,.int .i64 b2,.bool b,.bool a,.slice s m c],.agg #[.int .i64 0,.int .u64 0,.string ⟨#[]⟩,.bool false,.int .i64 0,.int .i64 g,.int .i64 f,.bool e,.bool a4,.int .i64 d,.int .i64 b2,.bool b,.bool a,.slice none 0 0]] w (RetB (.bool (jY X 0 T ⟨#[]⟩ I false F 0 g g f f e e a4 a4 d d b2 b2 b b a a)) w):=fun(w:World)=>zG 6 0 X 0 T ⟨#[]⟩ I false F 0 g g f f e e a4 a4 d d b2 b2 b b a a s none m 0 c 0 w;rw[<-hq] at hb;have HB:=aL hb;clear hb hq hm;have v:=fun(w:World)=>LZ g f e a4 w;rw[<-l] at v;have H1:=aL v;clear v;have u:=fun(w:World)=>LZ d b2 b a w;rw[<-j] at u;have H2:=aL u;clear u;have i:True:=trivial;by_cases hc:m=0;rotate_left
 ·refine Rx ?_;intro HE i8;clear hr hc l j;go_enter func43,ntmps43
  go_wp2_with (first|fail|(have x:=i;clear i;(go_at_call 69;refine qT ?_;intro w1 ab ao ay az af ai am al aj ag ap))|(go_at_call 69;refine xu ?_;refine pt ?_;intro t n C z A o H D E G y B)|(go_at_call 68;refine rE ?_;intro w9 ax bU bS bR aM bt bo bn bm bj bu))
  exact fD
 rw[fv hc,gA] at hr;subst hc;cases K
 ·refine yg ?_;intro HE;clear hr l j;go_enter func43,ntmps43
  go_wp2_with (first|fail|(have x:=i;clear i;(go_at_call 69;refine qT ?_;intro w1 ab ao ay az af ai am al aj ag ap))|(go_at_call 69;refine xu ?_;refine pt ?_;intro t n C z A o H D E G y B)|(go_at_call 68;refine rE ?_;intro w9 ax bU bS bR aM bt bo bn bm bj bu))
  exact fD
 rw[gA] at hr;cases J
 ·refine yg ?_;intro HE;clear hr l j;go_enter func43,ntmps43
  go_wp2_with (first|fail|(have x:=i;clear i;(go_at_call 69;refine qT ?_;intro w1 ab ao ay az af ai am al aj ag ap))|(go_at_call 69;refine xu ?_;refine pt ?_;intro t n C z A o H D E G y B)|(go_at_call 68;refine rE ?_;intro w9 ax bU bS bR aM bt bo bn bm bj bu))
  exact fD
 rw[gA] at hr
 ·clear l j;have HE:=aL (show r=q by rw[hr]);clear hr
  cases q<;>
  (go_enter func43,ntmps43;go_wp2_with (first|fail|(have x:=i;clear i;(go_at_call 69;refine cp (H1.out _) ?_;intro w1 ab;obtain⟨ao,ay,az,af⟩:=g9 (w) ab;(try simp only[fO,gz,fY,gt] at af);obtain⟨ai,am,al,aj,ag,ap⟩:=own6 ab (w.heap.size)))|(go_at_call 69;refine cp (H2.out _) ?_;intro t n;obtain⟨C,z,A,o⟩:=g9 (w) n;(try simp only[fO,gz,fY,gt] at o);obtain⟨H,D,E,G,y,B⟩:=own6 n (w.heap.size))|(go_at_call 68;refine cp (HB.out _) ?_;intro w9 ax;obtain⟨bU,bS,bR,aM⟩:=g9 (w) ax;(try simp only[fO,gz,fY,gt] at aM);obtain⟨bt,bo,bn,bm,bj,bu⟩:=own6 ax (w.heap.size)));go_ret;exact RetB.of (dZ Value.bool HE.out.symm) dt)
def yhB (X:Nat) (T:ByteArray) (I:Bool) (F a1 a2:Int) (a3 a4:Bool) (b1 b2:Int) (b3 b4:Bool) (a:List Tr):g8 (.mk 7 X T.data.toList I F ⟨a1,a2,a3,a4⟩ ⟨b1,b2,b3,b4⟩ a)=
 (decide (a.length=1)&&((decide (T=⟨#[45]⟩) || decide (T=⟨#[43]⟩))&&(jY X 0 T T I false F 0 a1 0 a2 0 a3 false a4 false b1 0 b2 0 b3 false b4 false))):=by
 exact zu
def yuC (X:Nat) (T:ByteArray) (I:Bool) (F a1 a2:Int) (a3 a4:Bool) (b1 b2:Int) (b3 b4:Bool) (s:Option Addr) (m c:Nat) (f:List Tr) (w:World) (hm:m=f.length) (j:T.size<=9223372036854775807):Calls prog 43 #[.agg #[.int .i64 7,.int .u64 (X:Nat),.string T,.bool I,.int .i64 F,.int .i64 a1,.int .i64 a2,.bool a3,.bool a4,.int .i64 b1,.int .i64 b2,.bool b3,.bool b4,.slice s m c]] w (RetB (.bool (g8 (.mk 7 X T.data.toList I F ⟨a1,a2,a3,a4⟩ ⟨b1,b2,b3,b4⟩ f))) w):=by
 rw[yhB,<-hm];refine TH ?_;intro q hq;obtain⟨d,a⟩: ∃ p,p=(decide (T=⟨#[45]⟩) || decide (T=⟨#[43]⟩)):=⟨_,rfl⟩;rw[<-a];obtain⟨r,hr⟩:=bx ((decide (m=1)&&(d&&q)));rw[<-hr];have hb: ∀ w:World,Calls prog 68 #[.agg #[.int .i64 7,.int .u64 (X:Nat),.string T,.bool I,.int .i64 F,.int .i64 a1,.int .i64 a2,.bool a3,.bool a4,.int .i64 b1,.int .i64 b2,.bool b3,.bool b4,.slice s m c],.agg #[.int .i64 0,.int .u64 0,.string T,.bool false,.int .i64 0,.int .i64 0,.int .i64 0,.bool false,.bool false,.int .i64 0,.int .i64 0,.bool false,.bool false,.slice none 0 0]] w (RetB (.bool (jY X 0 T T I false F 0 a1 0 a2 0 a3 false a4 false b1 0 b2 0 b3 false b4 false)) w):=fun(w:World)=>zG 7 0 X 0 T T I false F 0 a1 0 a2 0 a3 false a4 false b1 0 b2 0 b3 false b4 false s none m 0 c 0 w;rw[<-hq] at hb;have HB:=aL hb;clear hb hq hm;by_cases hc:m=1;rotate_left
 ·refine Zd ?_;intro HE;have i:((m:Int)==1)=false:=nY;clear hr hc a;go_enter func43,ntmps43
  go_wp2_with (first|fail|(go_at_call 68;refine rE ?_;intro w9 ax bU bS bR aM bt bo bn bm bj bu))
  exact fD
 rw[fv hc,gA] at hr;subst hc;cases d
 ·refine yg ?_;intro HE;have b:=Ss.1 a.symm;have e:(T.toList==[45])=false:=by rw[yb];exact b.1
  have g:(T.toList==[43])=false:=by rw[yb];exact b.2
  clear hr a b;go_enter func43,ntmps43
  go_wp2_with (first|fail|(go_at_call 68;refine rE ?_;intro w9 ax bU bS bR aM bt bo bn bm bj bu))
  exact fD
 rw[gA] at hr
 ·replace a:=zL.1 a.symm;rcases a with h|h
  ·have e:(T.toList==[45])=true:=by rw[yb];exact h
   clear h;exact L4
  ·have e:(T.toList==[43])=true:=by rw[yb];exact h
   have g:(T.toList==[45])=false:=by rw[vx h,sT];rfl
   clear h;exact L4
def yjW (X:Nat) (T:ByteArray) (I:Bool) (F a1 a2:Int) (a3 a4:Bool) (b1 b2:Int) (b3 b4:Bool) (a:List Tr):g8 (.mk 8 X T.data.toList I F ⟨a1,a2,a3,a4⟩ ⟨b1,b2,b3,b4⟩ a)=
 (decide (a.length=2)&&(decide (0<Fx.eT T.data.toList)&&(jY X 0 T T I false F 0 a1 0 a2 0 a3 false a4 false b1 0 b2 0 b3 false b4 false))):=by
 exact zu
def ytP (X:Nat) (T:ByteArray) (I:Bool) (F a1 a2:Int) (a3 a4:Bool) (b1 b2:Int) (b3 b4:Bool) (s:Option Addr) (m c:Nat) (e:List Tr) (w:World) (hm:m=e.length) (i:T.size<=9223372036854775807):Calls prog 43 #[.agg #[.int .i64 8,.int .u64 (X:Nat),.string T,.bool I,.int .i64 F,.int .i64 a1,.int .i64 a2,.bool a3,.bool a4,.int .i64 b1,.int .i64 b2,.bool b3,.bool b4,.slice s m c]] w (RetB (.bool (g8 (.mk 8 X T.data.toList I F ⟨a1,a2,a3,a4⟩ ⟨b1,b2,b3,b4⟩ e))) w):=by
 rw[yjW,<-hm];refine TH ?_;intro q hq;obtain⟨b,aQ⟩: ∃ p,p=decide (0<Fx.eT T.data.toList):=⟨_,rfl⟩;rw[<-aQ];obtain⟨r,hr⟩:=bx ((decide (m=2)&&(b&&q)));rw[<-hr];have hb: ∀ w:World,Calls prog 68 #[.agg #[.int .i64 8,.int .u64 (X:Nat),.string T,.bool I,.int .i64 F,.int .i64 a1,.int .i64 a2,.bool a3,.bool a4,.int .i64 b1,.int .i64 b2,.bool b3,.bool b4,.slice s m c],.agg #[.int .i64 0,.int .u64 0,.string T,.bool false,.int .i64 0,.int .i64 0,.int .i64 0,.bool false,.bool false,.int .i64 0,.int .i64 0,.bool false,.bool false,.slice none 0 0]] w (RetB (.bool (jY X 0 T T I false F 0 a1 0 a2 0 a3 false a4 false b1 0 b2 0 b3 false b4 false)) w):=fun(w:World)=>zG 8 0 X 0 T T I false F 0 a1 0 a2 0 a3 false a4 false b1 0 b2 0 b3 false b4 false s none m 0 c 0 w;rw[<-hq] at hb;have HB:=aL hb;clear hb hq hm;obtain⟨L,d⟩:=bx (Fx.eT T.data.toList);have a:=fun(w:World)=>Es T w;rw[<-d] at a aQ;have HF:=aL a;clear a d;by_cases hc:m=2;rotate_left
 ·refine Zd ?_;intro HE;have g:((m:Int)==2)=false:=nY;clear hr hc aQ;go_enter func43,ntmps43
  go_wp2_with (first|fail|(go_at_call 50;refine og ?_)|(go_at_call 68;refine rE ?_;intro w9 ax bU bS bR aM bt bo bn bm bj bu))
  exact fD
 rw[fv hc,gA] at hr;subst hc;cases b
 ·refine yg ?_;intro HE;have f: ¬ (0:Int)<(L:Int):=M0;clear hr aQ;go_enter func43,ntmps43
  go_wp2_with (first|fail|(go_at_call 50;refine og ?_)|(go_at_call 68;refine rE ?_;intro w9 ax bU bS bR aM bt bo bn bm bj bu))
  exact fD
 rw[gA] at hr
 ·have f:(0:Int)<(L:Int):=L1;clear aQ;have HE:=aL (show r=q by rw[hr]);clear hr
  cases q<;>
  (go_enter func43,ntmps43;go_wp2_with (first|fail|(go_at_call 50;refine cY (HF.out _) ?_)|(go_at_call 68;refine cp (HB.out _) ?_;intro w9 ax;obtain⟨bU,bS,bR,aM⟩:=g9 (w) ax;(try simp only[fO,gz,fY,gt] at aM);obtain⟨bt,bo,bn,bm,bj,bu⟩:=own6 ax (w.heap.size)));go_ret;exact RetB.of (dZ Value.bool HE.out.symm) dt)
def ygT (X:Nat) (T:ByteArray) (I:Bool) (F a1 a2:Int) (a3 a4:Bool) (b1 b2:Int) (b3 b4:Bool) (a:List Tr):g8 (.mk 9 X T.data.toList I F ⟨a1,a2,a3,a4⟩ ⟨b1,b2,b3,b4⟩ a)=
 (decide (a.length=1)&&(decide (T=⟨#[37]⟩)&&(jY X 0 T T I false F 0 a1 0 a2 0 a3 false a4 false b1 0 b2 0 b3 false b4 false))):=by
 exact zu
def ywK (X:Nat) (T:ByteArray) (I:Bool) (F a1 a2:Int) (a3 a4:Bool) (b1 b2:Int) (b3 b4:Bool) (s:Option Addr) (m c:Nat) (d:List Tr) (w:World) (hm:m=d.length) (g:T.size<=9223372036854775807):Calls prog 43 #[.agg #[.int .i64 9,.int .u64 (X:Nat),.string T,.bool I,.int .i64 F,.int .i64 a1,.int .i64 a2,.bool a3,.bool a4,.int .i64 b1,.int .i64 b2,.bool b3,.bool b4,.slice s m c]] w (RetB (.bool (g8 (.mk 9 X T.data.toList I F ⟨a1,a2,a3,a4⟩ ⟨b1,b2,b3,b4⟩ d))) w):=by
 rw[ygT,<-hm];refine TH ?_;intro q hq;obtain⟨b,a⟩: ∃ p,p=decide (T=⟨#[37]⟩):=⟨_,rfl⟩;rw[<-a];obtain⟨r,hr⟩:=bx ((decide (m=1)&&(b&&q)));rw[<-hr];have hb: ∀ w:World,Calls prog 68 #[.agg #[.int .i64 9,.int .u64 (X:Nat),.string T,.bool I,.int .i64 F,.int .i64 a1,.int .i64 a2,.bool a3,.bool a4,.int .i64 b1,.int .i64 b2,.bool b3,.bool b4,.slice s m c],.agg #[.int .i64 0,.int .u64 0,.string T,.bool false,.int .i64 0,.int .i64 0,.int .i64 0,.bool false,.bool false,.int .i64 0,.int .i64 0,.bool false,.bool false,.slice none 0 0]] w (RetB (.bool (jY X 0 T T I false F 0 a1 0 a2 0 a3 false a4 false b1 0 b2 0 b3 false b4 false)) w):=fun(w:World)=>zG 9 0 X 0 T T I false F 0 a1 0 a2 0 a3 false a4 false b1 0 b2 0 b3 false b4 false s none m 0 c 0 w;rw[<-hq] at hb;have HB:=aL hb;clear hb hq hm;by_cases hc:m=1;rotate_left
 ·refine Zd ?_;intro HE;have f:((m:Int)==1)=false:=nY;clear hr hc a;go_enter func43,ntmps43
  go_wp2_with (first|fail|(go_at_call 68;refine rE ?_;intro w9 ax bU bS bR aM bt bo bn bm bj bu))
  exact fD
 rw[fv hc,gA] at hr;subst hc;cases b
 ·refine yg ?_;intro HE;have e:(T.toList==[37])=false:=by rw[yb,<-a]
  clear hr a;go_enter func43,ntmps43
  go_wp2_with (first|fail|(go_at_call 68;refine rE ?_;intro w9 ax bU bS bR aM bt bo bn bm bj bu))
  exact fD
 rw[gA] at hr
 ·have e:(T.toList==[37])=true:=by rw[yb,<-a]
  clear a;exact L4
def yiL (X:Nat) (T:ByteArray) (I:Bool) (F a1 a2:Int) (a3 a4:Bool) (b1 b2:Int) (b3 b4:Bool) (a:List Tr):g8 (.mk 10 X T.data.toList I F ⟨a1,a2,a3,a4⟩ ⟨b1,b2,b3,b4⟩ a)=
 (decide (a.length<=30)&&(Fx.oF T.data.toList&&(jY X 0 T T I false F 0 a1 0 a2 0 a3 false a4 false b1 0 b2 0 b3 false b4 false))):=by
 exact zu
def ys7 (X:Nat) (T:ByteArray) (I:Bool) (F a1 a2:Int) (a3 a4:Bool) (b1 b2:Int) (b3 b4:Bool) (s:Option Addr) (m c:Nat) (z:List Tr) (w:World) (hm:m=z.length) (B:T.size<=9223372036854775807):Calls prog 43 #[.agg #[.int .i64 10,.int .u64 (X:Nat),.string T,.bool I,.int .i64 F,.int .i64 a1,.int .i64 a2,.bool a3,.bool a4,.int .i64 b1,.int .i64 b2,.bool b3,.bool b4,.slice s m c]] w (RetB (.bool (g8 (.mk 10 X T.data.toList I F ⟨a1,a2,a3,a4⟩ ⟨b1,b2,b3,b4⟩ z))) w):=by
 rw[yiL,<-hm];refine TH ?_;intro q hq;obtain⟨i,a⟩: ∃ p,p=Fx.oF T.data.toList:=⟨_,rfl⟩;rw[<-a];obtain⟨r,hr⟩:=bx ((decide (m<=30)&&(i&&q)));rw[<-hr];have hb: ∀ w:World,Calls prog 68 #[.agg #[.int .i64 10,.int .u64 (X:Nat),.string T,.bool I,.int .i64 F,.int .i64 a1,.int .i64 a2,.bool a3,.bool a4,.int .i64 b1,.int .i64 b2,.bool b3,.bool b4,.slice s m c],.agg #[.int .i64 0,.int .u64 0,.string T,.bool false,.int .i64 0,.int .i64 0,.int .i64 0,.bool false,.bool false,.int .i64 0,.int .i64 0,.bool false,.bool false,.slice none 0 0]] w (RetB (.bool (jY X 0 T T I false F 0 a1 0 a2 0 a3 false a4 false b1 0 b2 0 b3 false b4 false)) w):=fun(w:World)=>zG 10 0 X 0 T T I false F 0 a1 0 a2 0 a3 false a4 false b1 0 b2 0 b3 false b4 false s none m 0 c 0 w;rw[<-hq] at hb;have HB:=aL hb;clear hb hq hm;have d:=fun(w:World)=>ykw T w B;rw[<-a] at d;have f:=aL d;clear d;by_cases hc:m<=30;rotate_left
 ·refine Zd ?_;intro HE;have A: ¬ (m:Int)<=30:=aG;clear hr hc a;go_enter func43,ntmps43
  go_wp2_with (first|fail|(go_at_call 70;refine cp (f.out _) ?_;refine pt ?_;intro g b o l j e x t u v y n)|(go_at_call 68;refine rE ?_;intro w9 ax bU bS bR aM bt bo bn bm bj bu))
  exact fD
 rw[fv hc,gA] at hr;have A:(m:Int)<=30:=aG;clear hc;cases i
 ·refine yg ?_;intro HE;clear hr a;go_enter func43,ntmps43
  go_wp2_with (first|fail|(go_at_call 70;refine cp (f.out _) ?_;refine pt ?_;intro g b o l j e x t u v y n)|(go_at_call 68;refine rE ?_;intro w9 ax bU bS bR aM bt bo bn bm bj bu))
  exact fD
 rw[gA] at hr
 ·clear a;have HE:=aL (show r=q by rw[hr]);clear hr
  cases q<;>
  (go_enter func43,ntmps43;go_wp2_with (first|fail|(go_at_call 70;refine cp (f.out _) ?_;intro g b;obtain⟨o,l,j,e⟩:=g9 (w) b;(try simp only[fO,gz,fY,gt] at e);obtain⟨x,t,u,v,y,n⟩:=own6 b (w.heap.size))|(go_at_call 68;refine cp (HB.out _) ?_;intro w9 ax;obtain⟨bU,bS,bR,aM⟩:=g9 (w) ax;(try simp only[fO,gz,fY,gt] at aM);obtain⟨bt,bo,bn,bm,bj,bu⟩:=own6 ax (w.heap.size)));go_ret;exact RetB.of (dZ Value.bool HE.out.symm) dt)
def ymT (K:Int) (X:Nat) (T:ByteArray) (I:Bool) (F g f:Int) (e a4:Bool) (d b2:Int) (b a:Bool) (s:Option Addr) (m c:Nat) (i:List Tr) (w:World) (h: ¬ (1<=K/\K<=10)):Calls prog 43 #[.agg #[.int .i64 K,.int .u64 (X:Nat),.string T,.bool I,.int .i64 F,.int .i64 g,.int .i64 f,.bool e,.bool a4,.int .i64 d,.int .i64 b2,.bool b,.bool a,.slice s m c]] w (RetB (.bool (g8 (.mk K X T.data.toList I F ⟨g,f,e,a4⟩ ⟨d,b2,b,a⟩ i))) w):=by
 have hv:g8 (.mk K X T.data.toList I F ⟨g,f,e,a4⟩ ⟨d,b2,b,a⟩ i)=false:=by exact yjc
 rw[hv];clear hv;have u:(K==1)=false:=gN.2 aG;have t:(K==2)=false:=gN.2 aG;have r:(K==3)=false:=gN.2 aG;have q:(K==4)=false:=gN.2 aG;have o:(K==5)=false:=gN.2 aG;have n:(K==6)=false:=gN.2 aG;have l:(K==7)=false:=gN.2 aG;have k:(K==8)=false:=gN.2 aG;have j:(K==9)=false:=gN.2 aG;have d10:(K==10)=false:=gN.2 aG;clear h;go_enter func43,ntmps43
 go_wp2
 go_ret
 exact qO
def ysb (t:Tr) (v:Value) (lo hi:Nat) (w:World) (h:TreeAt w lo hi t v) (f:t.txt.length<=9223372036854775807):Calls prog 43 #[trv t v] w (RetB (.bool (g8 t)) w):=by
 obtain⟨K,X,T,I,F,r,q,o,a4,n,b2,l,k,a,m,c,rfl,i,e,b, -, -, -⟩:=h.flat;rw[i];obtain⟨ks,g⟩:=bx (t.kids);rw[<-g] at e b;have d:T.size<=9223372036854775807:=by rw[e] at f;rw[<-dN];exact f
 rw[e];clear i e g h f;by_cases j:1<=K/\K<=10
 ·have:K=1∨K=2∨K=3∨K=4∨K=5∨K=6∨K=7∨K=8∨K=9∨K=10:=aG;rcases this with rfl|rfl|rfl|rfl|rfl|rfl|rfl|rfl|rfl|rfl
  ·exact yqF _ _ _ _ _ _ _ _ _ _ _ _ _ _ _ _ _ b d
  ·exact yrf _ _ _ _ _ _ _ _ _ _ _ _ _ _ _ _ _ b d
  ·exact yo8 _ _ _ _ _ _ _ _ _ _ _ _ _ _ _ _ _ b d
  ·exact ysH _ _ _ _ _ _ _ _ _ _ _ _ _ _ _ _ _ b d
  ·exact yrU _ _ _ _ _ _ _ _ _ _ _ _ _ _ _ _ _ b d
  ·exact ywv _ _ _ _ _ _ _ _ _ _ _ _ _ _ _ _ _ b d
  ·exact yuC _ _ _ _ _ _ _ _ _ _ _ _ _ _ _ _ _ b d
  ·exact ytP _ _ _ _ _ _ _ _ _ _ _ _ _ _ _ _ _ b d
  ·exact ywK _ _ _ _ _ _ _ _ _ _ _ _ _ _ _ _ _ b d
  ·exact ys7 _ _ _ _ _ _ _ _ _ _ _ _ _ _ _ _ _ b d
 ·exact ymT _ _ _ _ _ _ _ _ _ _ _ _ _ _ _ _ _ _ j
end
end Go.Proofs.YtilbpmimoijfhaaGreatDoor
