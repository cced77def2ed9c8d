/- Formulas: whether a node is right by itself, by the program (printed by gen/mkk4.py a). -/
import Derived.Test.YtilbpmimoijfhaaGreatDoorY4
namespace Go.Proofs.YtilbpmimoijfhaaGreatDoor
set_option linter.all false
set_option maxRecDepth 100000
set_option maxHeartbeats 16000000
open Go.RowKit Go.Proofs.Tryz
section
open Fx (Tr g8 sB)
def yns (T:ByteArray):(T.data.toList==[])=decide (T=⟨#[]⟩):=by
 by_cases h:T=⟨#[]⟩
 ·subst h;rfl
 ·rw[eL h,gN];intro e;exact h (by cases T;simp at e;rw[e])
def yj6 (T:ByteArray) (c:UInt8):(T.data.toList==[c])=decide (T=⟨#[c]⟩):=by
 by_cases h:T=⟨#[c]⟩
 ·subst h;simp
 ·rw[eL h,gN];intro e;exact h (by cases T;congr 1;exact M1 (by simpa using e))
def yb (T:ByteArray) (c:UInt8):(T.toList==[c])=decide (T=⟨#[c]⟩):=by rw[sT,yj6]
def yh7 (c b:Int) (a a4:Bool):decide ((⟨c,b,a,a4⟩:Ce.Rf)=Ce.zero)=i6 c b a a4 0 0 false false:=by unfold i6 Ce.zero;rw[vs];simp
def ynh (F:Int):(⟨(Fx.jq F).toArray⟩:ByteArray).toList.isEmpty =!decide (1<=F/\F<=8):=by
 rw[sT];show(Fx.jq F).isEmpty =_;by_cases h:1<=F/\F<=8
 ·have:F=1∨F=2∨F=3∨F=4∨F=5∨F=6∨F=7∨F=8:=aG;rcases this with rfl|rfl|rfl|rfl|rfl|rfl|rfl|rfl<;>rfl
 ·rw[eL h];unfold Fx.jq;rw[bv aG,bv aG,bv aG,bv aG,bv aG,bv aG,bv aG,bv aG];rfl
def yjK (X:Nat) (T:ByteArray) (I:Bool) (F a1 a2:Int) (a3 a4:Bool) (b1 b2:Int) (b3 b4:Bool) (a:List Tr):g8 (.mk 1 X T.data.toList I F ⟨a1,a2,a3,a4⟩ ⟨b1,b2,b3,b4⟩ a)=
 (decide (a.length=0)&&(decide (X<9218868437227405312)&&(jY X X T ⟨#[]⟩ I false F 0 a1 0 a2 0 a3 false a4 false b1 0 b2 0 b3 false b4 false))):=by
 exact zu
def yqF (X:Nat) (T:ByteArray) (I:Bool) (F g f:Int) (e a4:Bool) (d b2:Int) (b a:Bool) (s:Option Addr) (m c:Nat) (j:List Tr) (w:World) (hm:m=j.length) (n:T.size<=9223372036854775807):Calls prog 43 #[.agg #[.int .i64 1,.int .u64 (X:Nat),.string T,.bool I,.int .i64 F,.int .i64 g,.int .i64 f,.bool e,.bool a4,.int .i64 d,.int .i64 b2,.bool b,.bool a,.slice s m c]] w (RetB (.bool (g8 (.mk 1 X T.data.toList I F ⟨g,f,e,a4⟩ ⟨d,b2,b,a⟩ j))) w):=by
 rw[yjK,<-hm];obtain⟨q,hq⟩:=bx (jY X X T ⟨#[]⟩ I false F 0 g 0 f 0 e false a4 false d 0 b2 0 b false a false);rw[<-hq];obtain⟨i,aQ⟩: ∃ p,p=decide (X<9218868437227405312):=⟨_,rfl⟩;rw[<-aQ];obtain⟨r,hr⟩:=bx ((decide (m=0)&&(i&&q)));rw[<-hr];have hb: ∀ w:World,Calls prog 68 #[.agg #[.int .i64 1,.int .u64 (X:Nat),.string T,.bool I,.int .i64 F,.int .i64 g,.int .i64 f,.bool e,.bool a4,.int .i64 d,.int .i64 b2,.bool b,.bool a,.slice s m c],.agg #[.int .i64 0,.int .u64 (X:Nat),.string ⟨#[]⟩,.bool false,.int .i64 0,.int .i64 0,.int .i64 0,.bool false,.bool false,.int .i64 0,.int .i64 0,.bool false,.bool false,.slice none 0 0]] w (RetB (.bool (jY X X T ⟨#[]⟩ I false F 0 g 0 f 0 e false a4 false d 0 b2 0 b false a false)) w):=fun(w:World)=>zG 1 0 X X T ⟨#[]⟩ I false F 0 g 0 f 0 e false a4 false d 0 b2 0 b false a false s none m 0 c 0 w;rw[<-hq] at hb;have HB:=aL hb;clear hb hq hm;by_cases hc:m=0;rotate_left
 ·refine Rx ?_;intro HE i8;clear hr hc aQ;go_enter func43,ntmps43
  go_wp2_with (first|fail|(go_at_call 68;refine rE ?_;intro w9 ax bU bS bR aM bt bo bn bm bj bu))
  exact fD
 rw[fv hc,gA] at hr;subst hc;cases i
 ·refine yg ?_;intro HE;have l: ¬ (X:Int)<9218868437227405312:=M0;clear hr aQ;go_enter func43,ntmps43
  go_wp2_with (first|fail|(go_at_call 68;refine rE ?_;intro w9 ax bU bS bR aM bt bo bn bm bj bu))
  exact fD
 rw[gA] at hr
 ·have l:(X:Int)<9218868437227405312:=L1;clear aQ;exact L4
def ykH (X:Nat) (T:ByteArray) (I:Bool) (F a1 a2:Int) (a3 a4:Bool) (b1 b2:Int) (b3 b4:Bool) (a:List Tr):g8 (.mk 2 X T.data.toList I F ⟨a1,a2,a3,a4⟩ ⟨b1,b2,b3,b4⟩ a)=
 (decide (a.length=0)&&(decide (T.size<=1000)&&(jY X 0 T T I false F 0 a1 0 a2 0 a3 false a4 false b1 0 b2 0 b3 false b4 false))):=by
 exact zu
def yrf (X:Nat) (T:ByteArray) (I:Bool) (F a1 a2:Int) (a3 a4:Bool) (b1 b2:Int) (b3 b4:Bool) (s:Option Addr) (m c:Nat) (b:List Tr) (w:World) (hm:m=b.length) (e:T.size<=9223372036854775807):Calls prog 43 #[.agg #[.int .i64 2,.int .u64 (X:Nat),.string T,.bool I,.int .i64 F,.int .i64 a1,.int .i64 a2,.bool a3,.bool a4,.int .i64 b1,.int .i64 b2,.bool b3,.bool b4,.slice s m c]] w (RetB (.bool (g8 (.mk 2 X T.data.toList I F ⟨a1,a2,a3,a4⟩ ⟨b1,b2,b3,b4⟩ b))) w):=by
 rw[ykH,<-hm];refine TH ?_;intro q hq;obtain⟨a,aQ⟩: ∃ p,p=decide (T.size<=1000):=⟨_,rfl⟩;rw[<-aQ];obtain⟨r,hr⟩:=bx ((decide (m=0)&&(a&&q)));rw[<-hr];have hb: ∀ w:World,Calls prog 68 #[.agg #[.int .i64 2,.int .u64 (X:Nat),.string T,.bool I,.int .i64 F,.int .i64 a1,.int .i64 a2,.bool a3,.bool a4,.int .i64 b1,.int .i64 b2,.bool b3,.bool b4,.slice s m c],.agg #[.int .i64 0,.int .u64 0,.string T,.bool false,.int .i64 0,.int .i64 0,.int .i64 0,.bool false,.bool false,.int .i64 0,.int .i64 0,.bool false,.bool false,.slice none 0 0]] w (RetB (.bool (jY X 0 T T I false F 0 a1 0 a2 0 a3 false a4 false b1 0 b2 0 b3 false b4 false)) w):=fun(w:World)=>zG 2 0 X 0 T T I false F 0 a1 0 a2 0 a3 false a4 false b1 0 b2 0 b3 false b4 false s none m 0 c 0 w;rw[<-hq] at hb;have HB:=aL hb;clear hb hq hm;by_cases hc:m=0;rotate_left
 ·refine Rx ?_;intro HE i8;clear hr hc aQ;go_enter func43,ntmps43
  go_wp2_with (first|fail|(go_at_call 68;refine rE ?_;intro w9 ax bU bS bR aM bt bo bn bm bj bu))
  exact fD
 rw[fv hc,gA] at hr;subst hc;cases a
 ·refine yg ?_;intro HE;have d: ¬ (T.size:Int)<=1000:=M0;clear hr aQ;go_enter func43,ntmps43
  go_wp2_with (first|fail|(go_at_call 68;refine rE ?_;intro w9 ax bU bS bR aM bt bo bn bm bj bu))
  exact fD
 rw[gA] at hr
 ·have d:(T.size:Int)<=1000:=L1;clear aQ;exact L4
def yk7 (X:Nat) (T:ByteArray) (I:Bool) (F a1 a2:Int) (a3 a4:Bool) (b1 b2:Int) (b3 b4:Bool) (a:List Tr):g8 (.mk 3 X T.data.toList I F ⟨a1,a2,a3,a4⟩ ⟨b1,b2,b3,b4⟩ a)=
 (decide (a.length=0)&&(jY X 0 T ⟨#[]⟩ I I F 0 a1 0 a2 0 a3 false a4 false b1 0 b2 0 b3 false b4 false)):=by
 exact zu
def yo8 (X:Nat) (T:ByteArray) (I:Bool) (F g f:Int) (e a4:Bool) (d b2:Int) (b a:Bool) (s:Option Addr) (m c:Nat) (i:List Tr) (w:World) (hm:m=i.length) (j:T.size<=9223372036854775807):Calls prog 43 #[.agg #[.int .i64 3,.int .u64 (X:Nat),.string T,.bool I,.int .i64 F,.int .i64 g,.int .i64 f,.bool e,.bool a4,.int .i64 d,.int .i64 b2,.bool b,.bool a,.slice s m c]] w (RetB (.bool (g8 (.mk 3 X T.data.toList I F ⟨g,f,e,a4⟩ ⟨d,b2,b,a⟩ i))) w):=by
 rw[yk7,<-hm];obtain⟨q,hq⟩:=bx (jY X 0 T ⟨#[]⟩ I I F 0 g 0 f 0 e false a4 false d 0 b2 0 b false a false);rw[<-hq];obtain⟨r,hr⟩:=bx ((decide (m=0)&&q));rw[<-hr];have hb: ∀ w:World,Calls prog 68 #[.agg #[.int .i64 3,.int .u64 (X:Nat),.string T,.bool I,.int .i64 F,.int .i64 g,.int .i64 f,.bool e,.bool a4,.int .i64 d,.int .i64 b2,.bool b,.bool a,.slice s m c],.agg #[.int .i64 0,.int .u64 0,.string ⟨#[]⟩,.bool I,.int .i64 0,.int .i64 0,.int .i64 0,.bool false,.bool false,.int .i64 0,.int .i64 0,.bool false,.bool false,.slice none 0 0]] w (RetB (.bool (jY X 0 T ⟨#[]⟩ I I F 0 g 0 f 0 e false a4 false d 0 b2 0 b false a false)) w):=fun(w:World)=>zG 3 0 X 0 T ⟨#[]⟩ I I F 0 g 0 f 0 e false a4 false d 0 b2 0 b false a false s none m 0 c 0 w;rw[<-hq] at hb;have HB:=aL hb;clear hb hq hm;by_cases hc:m=0;rotate_left
 ·refine Rx ?_;intro HE i8;clear hr hc;go_enter func43,ntmps43
  go_wp2_with (first|fail|(go_at_call 68;refine rE ?_;intro w9 ax bU bS bR aM bt bo bn bm bj bu))
  exact fD
 rw[fv hc,gA] at hr;subst hc
 ·skip
  exact L4
def ygA (X:Nat) (T:ByteArray) (I:Bool) (F a1 a2:Int) (a3 a4:Bool) (b1 b2:Int) (b3 b4:Bool) (a:List Tr):g8 (.mk 4 X T.data.toList I F ⟨a1,a2,a3,a4⟩ ⟨b1,b2,b3,b4⟩ a)=
 (decide (a.length=0)&&(decide (1<=F/\F<=8)&&(jY X 0 T ⟨#[]⟩ I false F F a1 0 a2 0 a3 false a4 false b1 0 b2 0 b3 false b4 false))):=by
 exact zu
def ysH (X:Nat) (T:ByteArray) (I:Bool) (F j i:Int) (g a4:Bool) (f b2:Int) (d b:Bool) (s:Option Addr) (m c:Nat) (x:List Tr) (w:World) (hm:m=x.length) (y:T.size<=9223372036854775807):Calls prog 43 #[.agg #[.int .i64 4,.int .u64 (X:Nat),.string T,.bool I,.int .i64 F,.int .i64 j,.int .i64 i,.bool g,.bool a4,.int .i64 f,.int .i64 b2,.bool d,.bool b,.slice s m c]] w (RetB (.bool (g8 (.mk 4 X T.data.toList I F ⟨j,i,g,a4⟩ ⟨f,b2,d,b⟩ x))) w):=by
 rw[ygA,<-hm];obtain⟨q,hq⟩:=bx (jY X 0 T ⟨#[]⟩ I false F F j 0 i 0 g false a4 false f 0 b2 0 d false b false);rw[<-hq];obtain⟨t,l⟩: ∃ p,p=decide (1<=F/\F<=8):=⟨_,rfl⟩;rw[<-l];obtain⟨r,hr⟩:=bx ((decide (m=0)&&(t&&q)));rw[<-hr];have hb: ∀ w:World,Calls prog 68 #[.agg #[.int .i64 4,.int .u64 (X:Nat),.string T,.bool I,.int .i64 F,.int .i64 j,.int .i64 i,.bool g,.bool a4,.int .i64 f,.int .i64 b2,.bool d,.bool b,.slice s m c],.agg #[.int .i64 0,.int .u64 0,.string ⟨#[]⟩,.bool false,.int .i64 F,.int .i64 0,.int .i64 0,.bool false,.bool false,.int .i64 0,.int .i64 0,.bool false,.bool false,.slice none 0 0]] w (RetB (.bool (jY X 0 T ⟨#[]⟩ I false F F j 0 i 0 g false a4 false f 0 b2 0 d false b false)) w):=fun(w:World)=>zG 4 0 X 0 T ⟨#[]⟩ I false F F j 0 i 0 g false a4 false f 0 b2 0 d false b false s none m 0 c 0 w;rw[<-hq] at hb;have HB:=aL hb;clear hb hq hm;obtain⟨S,v⟩:=bx (⟨(Fx.jq F).toArray⟩:ByteArray);have o:=fun(w:World)=>Ou F w;have a:=ynh F;rw[<-v] at o a;rw[<-l] at a;have HF:=aL o;clear o v;by_cases hc:m=0;rotate_left
 ·refine Rx ?_;intro HE i8;clear hr hc l a;go_enter func43,ntmps43
  go_wp2_with (first|fail|(go_at_call 14;refine og ?_)|(go_at_call 68;refine rE ?_;intro w9 ax bU bS bR aM bt bo bn bm bj bu))
  exact fD
 rw[fv hc,gA] at hr;subst hc;cases t
 ·refine yg ?_;intro HE;have n:S.toList.isEmpty=true:=by rw[a];rfl
  have u:S=ByteArray.empty:=by have:=yuy n;cases S;simp[ByteArray.size] at this;subst this;rfl
  clear hr l a;subst u;go_enter func43,ntmps43
  go_wp2_with (first|fail|(go_at_call 14;refine og ?_)|(go_at_call 68;refine rE ?_;intro w9 ax bU bS bR aM bt bo bn bm bj bu))
  exact fD
 rw[gA] at hr
 ·have n:S.toList.isEmpty=false:=by rw[a];rfl
  have u: ¬ S=ByteArray.empty:=fun e=>by rw[e,pB rfl] at n;cases n
  clear l a;have HE:=aL (show r=q by rw[hr]);clear hr
  cases q<;>
  (go_enter func43,ntmps43;go_wp2_with (first|fail|(go_at_call 14;refine cY (HF.out _) ?_)|(go_at_call 68;refine cp (HB.out _) ?_;intro w9 ax;obtain⟨bU,bS,bR,aM⟩:=g9 (w) ax;(try simp only[fO,gz,fY,gt] at aM);obtain⟨bt,bo,bn,bm,bj,bu⟩:=own6 ax (w.heap.size)));go_ret;exact RetB.of (dZ Value.bool HE.out.symm) dt)
def ygw (X:Nat) (T:ByteArray) (I:Bool) (F a1 a2:Int) (a3 a4:Bool) (b1 b2:Int) (b3 b4:Bool) (a:List Tr):g8 (.mk 5 X T.data.toList I F ⟨a1,a2,a3,a4⟩ ⟨b1,b2,b3,b4⟩ a)=
 (decide (a.length=0)&&(Ce.right ⟨a1,a2,a3,a4⟩&&(jY X 0 T ⟨#[]⟩ I false F 0 a1 a1 a2 a2 a3 a3 a4 a4 b1 0 b2 0 b3 false b4 false))):=by
 exact zu
def yrU (X:Nat) (T:ByteArray) (I:Bool) (F d b:Int) (a a4:Bool) (i b2:Int) (g f:Bool) (s:Option Addr) (m c:Nat) (t:List Tr) (w:World) (hm:m=t.length) (u:T.size<=9223372036854775807):Calls prog 43 #[.agg #[.int .i64 5,.int .u64 (X:Nat),.string T,.bool I,.int .i64 F,.int .i64 d,.int .i64 b,.bool a,.bool a4,.int .i64 i,.int .i64 b2,.bool g,.bool f,.slice s m c]] w (RetB (.bool (g8 (.mk 5 X T.data.toList I F ⟨d,b,a,a4⟩ ⟨i,b2,g,f⟩ t))) w):=by
 rw[ygw,<-hm];obtain⟨q,hq⟩:=bx (jY X 0 T ⟨#[]⟩ I false F 0 d d b b a a a4 a4 i 0 b2 0 g false f false);rw[<-hq];obtain⟨n,j⟩: ∃ p,p=Ce.right ⟨d,b,a,a4⟩:=⟨_,rfl⟩;rw[<-j];obtain⟨r,hr⟩:=bx ((decide (m=0)&&(n&&q)));rw[<-hr];have hb: ∀ w:World,Calls prog 68 #[.agg #[.int .i64 5,.int .u64 (X:Nat),.string T,.bool I,.int .i64 F,.int .i64 d,.int .i64 b,.bool a,.bool a4,.int .i64 i,.int .i64 b2,.bool g,.bool f,.slice s m c],.agg #[.int .i64 0,.int .u64 0,.string ⟨#[]⟩,.bool false,.int .i64 0,.int .i64 d,.int .i64 b,.bool a,.bool a4,.int .i64 0,.int .i64 0,.bool false,.bool false,.slice none 0 0]] w (RetB (.bool (jY X 0 T ⟨#[]⟩ I false F 0 d d b b a a a4 a4 i 0 b2 0 g false f false)) w):=fun(w:World)=>zG 5 0 X 0 T ⟨#[]⟩ I false F 0 d d b b a a a4 a4 i 0 b2 0 g false f false s none m 0 c 0 w;rw[<-hq] at hb;have HB:=aL hb;clear hb hq hm;have l:=fun(w:World)=>LZ d b a a4 w;rw[<-j] at l;have H1:=aL l;clear l;have e:True:=trivial;by_cases hc:m=0;rotate_left
 ·refine Rx ?_;intro HE i8;clear hr hc j;go_enter func43,ntmps43
  go_wp2_with (first|fail|(have o:=e;clear e;(go_at_call 69;refine qT ?_;intro w1 ab ao ay az af ai am al aj ag ap))|(go_at_call 68;refine rE ?_;intro w9 ax bU bS bR aM bt bo bn bm bj bu))
  exact fD
 rw[fv hc,gA] at hr;subst hc;cases n
 ·refine yg ?_;intro HE;clear hr j;go_enter func43,ntmps43
  go_wp2_with (first|fail|(have o:=e;clear e;(go_at_call 69;refine qT ?_;intro w1 ab ao ay az af ai am al aj ag ap))|(go_at_call 68;refine rE ?_;intro w9 ax bU bS bR aM bt bo bn bm bj bu))
  exact fD
 rw[gA] at hr
 ·clear j;have HE:=aL (show r=q by rw[hr]);clear hr
  cases q<;>
  (go_enter func43,ntmps43;go_wp2_with (first|fail|(have o:=e;clear e;(go_at_call 69;refine cp (H1.out _) ?_;intro w1 ab;obtain⟨ao,ay,az,af⟩:=g9 (w) ab;(try simp only[fO,gz,fY,gt] at af);obtain⟨ai,am,al,aj,ag,ap⟩:=own6 ab (w.heap.size)))|(go_at_call 68;refine cp (HB.out _) ?_;intro w9 ax;obtain⟨bU,bS,bR,aM⟩:=g9 (w) ax;(try simp only[fO,gz,fY,gt] at aM);obtain⟨bt,bo,bn,bm,bj,bu⟩:=own6 ax (w.heap.size)));go_ret;exact RetB.of (dZ Value.bool HE.out.symm) dt)
end
end Go.Proofs.YtilbpmimoijfhaaGreatDoor
