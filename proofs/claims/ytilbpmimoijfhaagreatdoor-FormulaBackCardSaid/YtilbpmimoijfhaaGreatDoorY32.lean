/- Formulas: whether a node is right by itself, by the document (printed by gen/mkk43.py a). -/
import Derived.Test.YtilbpmimoijfhaaGreatDoorY29
namespace Go.Proofs.YtilbpmimoijfhaaGreatDoor
set_option linter.all false
set_option maxRecDepth 100000
set_option maxHeartbeats 16000000
open Go.RowKit Go.Proofs.Tryz
section
open Fx (Tr g8 sB)
attribute [local go_sem high] W2 Xn Wc
def ym (a b:Int) (c d:Bool):i6 a b c d a b c d=true:=by unfold i6;simp
def yvF {T:ByteArray} (h: ¬ T=⟨#[]⟩):T.toList.isEmpty=false/\ ¬ T=ByteArray.empty:=by
 have a: ¬ T=ByteArray.empty:=h;refine⟨oj ?_,a⟩;rcases ty T.size with e|e
 ·exfalso;apply h
  cases T with
  |mk d=>
   have:d= #[]:=by rw[<-Array.size_eq_zero_iff];exact e
   rw[this]
 ·exact e
def yqn (X:Nat) (T:ByteArray) (I:Bool) (F g f:Int) (e a4:Bool) (d b2:Int) (b a:Bool) (s:Option Addr) (m c:Nat) (l:List Tr) (w:World) (hm:m=l.length) (u:T.size<=9223372036854775807):Calls prog 44 #[.agg #[.int .i64 1,.int .u64 (X:Nat),.string T,.bool I,.int .i64 F,.int .i64 g,.int .i64 f,.bool e,.bool a4,.int .i64 d,.int .i64 b2,.bool b,.bool a,.slice s m c]] w (RetB (.bool (g8 (.mk 1 X T.data.toList I F ⟨g,f,e,a4⟩ ⟨d,b2,b,a⟩ l))) w):=by
 obtain⟨r,hr⟩:=bx (g8 (.mk 1 X T.data.toList I F ⟨g,f,e,a4⟩ ⟨d,b2,b,a⟩ l));rw[<-hr];rw[yjK,<-hm] at hr;unfold jY at hr;simp only[ym,nJ,gA,jW] at hr;replace hr:r=((decide (m=0)&&(decide (X<9218868437227405312)&&(decide (T=⟨#[]⟩)&&(decide (I=false)&&(decide (F=0)&&(i6 g f e a4 0 0 false false&&(i6 d b2 b a 0 0 false false)))))))):=by rw[hr]
 clear hm;obtain⟨q,aQ⟩: ∃ p,p=decide (X<9218868437227405312):=⟨_,rfl⟩;rw[<-aQ] at hr;cases I;rotate_left
 ·refine kJ ?_;intro HE;clear hr aQ;go_enter func44,ntmps44
  go_wp2_with (first|fail)
  exact fD
 by_cases hF:F=0;rotate_left
 ·refine zJ ?_;intro HE d0 d1;clear hr aQ;go_enter func44,ntmps44
  go_wp2_with (first|fail)
  exact fD
 subst hF;obtain⟨o,i⟩: ∃ p,p=i6 g f e a4 0 0 false false:=⟨_,rfl⟩;rw[<-i] at hr;replace i:=i.symm;cases o
 ·refine kJ ?_;intro HE;clear hr aQ;go_enter func44,ntmps44
  go_wp2_with (first|fail)
  exact fD
 obtain⟨n,j⟩: ∃ p,p=i6 d b2 b a 0 0 false false:=⟨_,rfl⟩;rw[<-j] at hr;replace j:=j.symm;cases n
 ·refine kJ ?_;intro HE;clear hr aQ;go_enter func44,ntmps44
  go_wp2_with (first|fail)
  exact fD
 try simp only[nJ,gA,jW] at hr
 cases q
 ·refine kJ ?_;intro HE;have t: ¬ (X:Int)<9218868437227405312:=M0;clear hr aQ;go_enter func44,ntmps44
  go_wp2_with (first|fail)
  exact fD
 have t:(X:Int)<9218868437227405312:=L1;try simp only[gA,jW] at hr
 clear aQ;by_cases gP:T=⟨#[]⟩;rotate_left
 ·refine V3 ?_;intro HE d0 d1;clear hr gP;go_enter func44,ntmps44
  go_wp2_with (first|fail)
  exact fD
 subst gP;try simp only[nJ,jW] at hr
 by_cases hc:m=0
 ·refine yO ?_;intro HE;subst hc;clear hr;go_enter func44,ntmps44
  go_wp2_with (first|fail)
  exact fD
 ·refine N5 ?_;intro HE i8;clear hr hc;go_enter func44,ntmps44
  go_wp2_with (first|fail)
  exact fD
def ytZ (X:Nat) (T:ByteArray) (I:Bool) (F g f:Int) (e a4:Bool) (d b2:Int) (b a:Bool) (s:Option Addr) (m c:Nat) (l:List Tr) (w:World) (hm:m=l.length) (u:T.size<=9223372036854775807):Calls prog 44 #[.agg #[.int .i64 2,.int .u64 (X:Nat),.string T,.bool I,.int .i64 F,.int .i64 g,.int .i64 f,.bool e,.bool a4,.int .i64 d,.int .i64 b2,.bool b,.bool a,.slice s m c]] w (RetB (.bool (g8 (.mk 2 X T.data.toList I F ⟨g,f,e,a4⟩ ⟨d,b2,b,a⟩ l))) w):=by
 obtain⟨r,hr⟩:=bx (g8 (.mk 2 X T.data.toList I F ⟨g,f,e,a4⟩ ⟨d,b2,b,a⟩ l));rw[<-hr];rw[ykH,<-hm] at hr;unfold jY at hr;simp only[ym,nJ,gA,jW] at hr;replace hr:r=((decide (m=0)&&(decide (T.size<=1000)&&(decide (X=0)&&(decide (I=false)&&(decide (F=0)&&(i6 g f e a4 0 0 false false&&(i6 d b2 b a 0 0 false false)))))))):=by rw[hr]
 clear hm;obtain⟨q,aQ⟩: ∃ p,p=decide (T.size<=1000):=⟨_,rfl⟩;rw[<-aQ] at hr;by_cases hX:X=0;rotate_left
 ·refine zP ?_;intro HE d0 d1 d2;clear hr aQ;go_enter func44,ntmps44
  go_wp2_with (first|fail)
  exact fD
 subst hX;cases I;rotate_left
 ·refine kJ ?_;intro HE;clear hr aQ;go_enter func44,ntmps44
  go_wp2_with (first|fail)
  exact fD
 by_cases hF:F=0;rotate_left
 ·refine zJ ?_;intro HE d0 d1;clear hr aQ;go_enter func44,ntmps44
  go_wp2_with (first|fail)
  exact fD
 subst hF;obtain⟨o,i⟩: ∃ p,p=i6 g f e a4 0 0 false false:=⟨_,rfl⟩;rw[<-i] at hr;replace i:=i.symm;cases o
 ·refine kJ ?_;intro HE;clear hr aQ;go_enter func44,ntmps44
  go_wp2_with (first|fail)
  exact fD
 obtain⟨n,j⟩: ∃ p,p=i6 d b2 b a 0 0 false false:=⟨_,rfl⟩;rw[<-j] at hr;replace j:=j.symm;cases n
 ·refine kJ ?_;intro HE;clear hr aQ;go_enter func44,ntmps44
  go_wp2_with (first|fail)
  exact fD
 try simp only[nJ,gA,jW] at hr
 cases q
 ·refine kJ ?_;intro HE;have t: ¬ (T.size:Int)<=1000:=M0;clear hr aQ;go_enter func44,ntmps44
  go_wp2_with (first|fail)
  exact fD
 have t:(T.size:Int)<=1000:=L1;try simp only[gA,jW] at hr
 clear aQ;by_cases hc:m=0
 ·refine yO ?_;intro HE;subst hc;clear hr;go_enter func44,ntmps44
  go_wp2_with (first|fail)
  exact fD
 ·refine N5 ?_;intro HE i8;clear hr hc;go_enter func44,ntmps44
  go_wp2_with (first|fail)
  exact fD
def yuJ (X:Nat) (T:ByteArray) (I:Bool) (F g f:Int) (e a4:Bool) (d b2:Int) (b a:Bool) (s:Option Addr) (m c:Nat) (l:List Tr) (w:World) (hm:m=l.length) (q:T.size<=9223372036854775807):Calls prog 44 #[.agg #[.int .i64 3,.int .u64 (X:Nat),.string T,.bool I,.int .i64 F,.int .i64 g,.int .i64 f,.bool e,.bool a4,.int .i64 d,.int .i64 b2,.bool b,.bool a,.slice s m c]] w (RetB (.bool (g8 (.mk 3 X T.data.toList I F ⟨g,f,e,a4⟩ ⟨d,b2,b,a⟩ l))) w):=by
 obtain⟨r,hr⟩:=bx (g8 (.mk 3 X T.data.toList I F ⟨g,f,e,a4⟩ ⟨d,b2,b,a⟩ l));rw[<-hr];rw[yk7,<-hm] at hr;unfold jY at hr;simp only[ym,nJ,gA,jW] at hr;replace hr:r=((decide (m=0)&&(decide (X=0)&&(decide (T=⟨#[]⟩)&&(decide (F=0)&&(i6 g f e a4 0 0 false false&&(i6 d b2 b a 0 0 false false))))))):=by rw[hr]
 clear hm;by_cases hX:X=0;rotate_left
 ·refine zP ?_;intro HE d0 d1 d2;clear hr;go_enter func44,ntmps44
  go_wp2_with (first|fail)
  exact fD
 subst hX;by_cases hF:F=0;rotate_left
 ·refine zJ ?_;intro HE d0 d1;clear hr;go_enter func44,ntmps44
  go_wp2_with (first|fail)
  exact fD
 subst hF;obtain⟨o,i⟩: ∃ p,p=i6 g f e a4 0 0 false false:=⟨_,rfl⟩;rw[<-i] at hr;replace i:=i.symm;cases o
 ·refine kJ ?_;intro HE;clear hr;go_enter func44,ntmps44
  go_wp2_with (first|fail)
  exact fD
 obtain⟨n,j⟩: ∃ p,p=i6 d b2 b a 0 0 false false:=⟨_,rfl⟩;rw[<-j] at hr;replace j:=j.symm;cases n
 ·refine kJ ?_;intro HE;clear hr;go_enter func44,ntmps44
  go_wp2_with (first|fail)
  exact fD
 try simp only[nJ,gA,jW] at hr
 by_cases gP:T=⟨#[]⟩;rotate_left
 ·refine V3 ?_;intro HE d0 d1;clear hr gP;go_enter func44,ntmps44
  go_wp2_with (first|fail)
  exact fD
 subst gP;try simp only[nJ,jW] at hr
 by_cases hc:m=0
 ·refine yO ?_;intro HE;subst hc;clear hr;go_enter func44,ntmps44
  go_wp2_with (first|fail)
  exact fD
 ·refine N5 ?_;intro HE i8;clear hr hc;go_enter func44,ntmps44
  go_wp2_with (first|fail)
  exact fD
def ynP (X:Nat) (T:ByteArray) (I:Bool) (F j i:Int) (g a4:Bool) (f b2:Int) (e d:Bool) (s:Option Addr) (m c:Nat) (o:List Tr) (w:World) (hm:m=o.length) (y:T.size<=9223372036854775807):Calls prog 44 #[.agg #[.int .i64 4,.int .u64 (X:Nat),.string T,.bool I,.int .i64 F,.int .i64 j,.int .i64 i,.bool g,.bool a4,.int .i64 f,.int .i64 b2,.bool e,.bool d,.slice s m c]] w (RetB (.bool (g8 (.mk 4 X T.data.toList I F ⟨j,i,g,a4⟩ ⟨f,b2,e,d⟩ o))) w):=by
 obtain⟨r,hr⟩:=bx (g8 (.mk 4 X T.data.toList I F ⟨j,i,g,a4⟩ ⟨f,b2,e,d⟩ o));rw[<-hr];rw[ygA,<-hm] at hr;unfold jY at hr;simp only[ym,nJ,gA,jW] at hr;replace hr:r=((decide (m=0)&&(decide (1<=F/\F<=8)&&(decide (X=0)&&(decide (T=⟨#[]⟩)&&(decide (I=false)&&(i6 j i g a4 0 0 false false&&(i6 f b2 e d 0 0 false false)))))))):=by rw[hr]
 clear hm;obtain⟨u,a⟩: ∃ p,p=decide (1<=F/\F<=8):=⟨_,rfl⟩;rw[<-a] at hr;by_cases hX:X=0;rotate_left
 ·refine zP ?_;intro HE d0 d1 d2;clear hr a;go_enter func44,ntmps44
  go_wp2_with (first|fail)
  exact fD
 subst hX;cases I;rotate_left
 ·refine kJ ?_;intro HE;clear hr a;go_enter func44,ntmps44
  go_wp2_with (first|fail)
  exact fD
 obtain⟨t,l⟩: ∃ p,p=i6 j i g a4 0 0 false false:=⟨_,rfl⟩;rw[<-l] at hr;replace l:=l.symm;cases t
 ·refine kJ ?_;intro HE;clear hr a;go_enter func44,ntmps44
  go_wp2_with (first|fail)
  exact fD
 obtain⟨q,n⟩: ∃ p,p=i6 f b2 e d 0 0 false false:=⟨_,rfl⟩;rw[<-n] at hr;replace n:=n.symm;cases q
 ·refine kJ ?_;intro HE;clear hr a;go_enter func44,ntmps44
  go_wp2_with (first|fail)
  exact fD
 try simp only[nJ,gA,jW] at hr
 cases u
 ·refine kJ ?_;intro HE;have b:=xt a.symm;by_cases x:1<=F
  ·have v:8<F:=aG;clear b hr a;go_enter func44,ntmps44
   go_wp2_with (first|fail)
   exact fD
  ·clear b hr a;go_enter func44,ntmps44
   go_wp2_with (first|fail)
   exact fD
 have b:=vx a.symm;have x:1<=F:=b.1;have v:F<=8:=b.2;clear b;try simp only[gA,jW] at hr
 clear a;by_cases gP:T=⟨#[]⟩;rotate_left
 ·refine V3 ?_;intro HE d0 d1;clear hr gP;go_enter func44,ntmps44
  go_wp2_with (first|fail)
  exact fD
 subst gP;try simp only[nJ,jW] at hr
 by_cases hc:m=0
 ·refine yO ?_;intro HE;subst hc;clear hr;go_enter func44,ntmps44
  go_wp2_with (first|fail)
  exact fD
 ·refine N5 ?_;intro HE i8;clear hr hc;go_enter func44,ntmps44
  go_wp2_with (first|fail)
  exact fD
def yt3 (X:Nat) (T:ByteArray) (I:Bool) (F g f:Int) (e a4:Bool) (l b2:Int) (j i:Bool) (s:Option Addr) (m c:Nat) (q:List Tr) (w:World) (hm:m=q.length) (v:T.size<=9223372036854775807):Calls prog 44 #[.agg #[.int .i64 5,.int .u64 (X:Nat),.string T,.bool I,.int .i64 F,.int .i64 g,.int .i64 f,.bool e,.bool a4,.int .i64 l,.int .i64 b2,.bool j,.bool i,.slice s m c]] w (RetB (.bool (g8 (.mk 5 X T.data.toList I F ⟨g,f,e,a4⟩ ⟨l,b2,j,i⟩ q))) w):=by
 obtain⟨r,hr⟩:=bx (g8 (.mk 5 X T.data.toList I F ⟨g,f,e,a4⟩ ⟨l,b2,j,i⟩ q));rw[<-hr];rw[ygw,<-hm] at hr;unfold jY at hr;simp only[ym,nJ,gA,jW] at hr;replace hr:r=((decide (m=0)&&(Ce.right ⟨g,f,e,a4⟩&&(decide (X=0)&&(decide (T=⟨#[]⟩)&&(decide (I=false)&&(decide (F=0)&&(i6 l b2 j i 0 0 false false)))))))):=by rw[hr]
 clear hm;obtain⟨u,b⟩: ∃ p,p=Ce.right ⟨g,f,e,a4⟩:=⟨_,rfl⟩;rw[<-b] at hr;have n:=fun(w:World)=>yeA g f e a4 w;rw[<-b] at n;have H1:=aL n;clear n;have a:True:=trivial;by_cases hX:X=0;rotate_left
 ·refine zP ?_;intro HE d0 d1 d2;clear hr b;go_enter func44,ntmps44
  go_wp2_with (first|fail|(have d:=a;clear a;(go_at_call 71;refine qT ?_;intro w1 ab ao ay az af ai am al aj ag ap)))
  exact fD
 subst hX;cases I;rotate_left
 ·refine kJ ?_;intro HE;clear hr b;go_enter func44,ntmps44
  go_wp2_with (first|fail|(have d:=a;clear a;(go_at_call 71;refine qT ?_;intro w1 ab ao ay az af ai am al aj ag ap)))
  exact fD
 by_cases hF:F=0;rotate_left
 ·refine zJ ?_;intro HE d0 d1;clear hr b;go_enter func44,ntmps44
  go_wp2_with (first|fail|(have d:=a;clear a;(go_at_call 71;refine qT ?_;intro w1 ab ao ay az af ai am al aj ag ap)))
  exact fD
 subst hF;obtain⟨t,o⟩: ∃ p,p=i6 l b2 j i 0 0 false false:=⟨_,rfl⟩;rw[<-o] at hr;replace o:=o.symm;cases t
 ·refine kJ ?_;intro HE;clear hr b;go_enter func44,ntmps44
  go_wp2_with (first|fail|(have d:=a;clear a;(go_at_call 71;refine qT ?_;intro w1 ab ao ay az af ai am al aj ag ap)))
  exact fD
 try simp only[nJ,gA,jW] at hr
 cases u
 ·refine kJ ?_;intro HE;clear hr b;go_enter func44,ntmps44
  go_wp2_with (first|fail|(have d:=a;clear a;(go_at_call 71;refine qT ?_;intro w1 ab ao ay az af ai am al aj ag ap)))
  exact fD
 try simp only[gA,jW] at hr
 clear b;by_cases gP:T=⟨#[]⟩;rotate_left
 ·refine V3 ?_;intro HE d0 d1;clear hr gP;go_enter func44,ntmps44
  go_wp2_with (first|fail|(have d:=a;clear a;(go_at_call 71;refine qT ?_;intro w1 ab ao ay az af ai am al aj ag ap)))
  exact fD
 subst gP;try simp only[nJ,jW] at hr
 by_cases hc:m=0
 ·refine yO ?_;intro HE;subst hc;clear hr;go_enter func44,ntmps44
  go_wp2_with (first|fail|(have d:=a;clear a;(go_at_call 71;refine qT ?_;intro w1 ab ao ay az af ai am al aj ag ap)))
  exact fD
 ·refine N5 ?_;intro HE i8;clear hr hc;go_enter func44,ntmps44
  go_wp2_with (first|fail|(have d:=a;clear a;(go_at_call 71;refine qT ?_;intro w1 ab ao ay az af ai am al aj ag ap)))
  exact fD
end
end Go.Proofs.YtilbpmimoijfhaaGreatDoor
