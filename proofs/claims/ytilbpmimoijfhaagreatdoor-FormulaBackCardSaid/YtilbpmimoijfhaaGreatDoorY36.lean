/- Formulas: whether a node is right by itself, by the document (printed by gen/mkk43.py b). -/
import Derived.Test.YtilbpmimoijfhaaGreatDoorY32
namespace Go.Proofs.YtilbpmimoijfhaaGreatDoor
set_option linter.all false
set_option maxRecDepth 100000
set_option maxHeartbeats 16000000
open Go.RowKit Go.Proofs.Tryz
section
open Fx (Tr g8 sB)
attribute [local go_sem high] W2 Xn Wc
def ypm (X:Nat) (T:ByteArray) (I:Bool) (F D C:Int) (B a4:Bool) (A b2:Int) (z y:Bool) (s:Option Addr) (m c:Nat) (H:List Tr) (w:World) (hm:m=H.length) (L:T.size<=9223372036854775807):Calls prog 44 #[.agg #[.int .i64 6,.int .u64 (X:Nat),.string T,.bool I,.int .i64 F,.int .i64 D,.int .i64 C,.bool B,.bool a4,.int .i64 A,.int .i64 b2,.bool z,.bool y,.slice s m c]] w (RetB (.bool (g8 (.mk 6 X T.data.toList I F ⟨D,C,B,a4⟩ ⟨A,b2,z,y⟩ H))) w):=by
 obtain⟨r,hr⟩:=bx (g8 (.mk 6 X T.data.toList I F ⟨D,C,B,a4⟩ ⟨A,b2,z,y⟩ H));rw[<-hr];rw[yjk,<-hm] at hr;unfold jY at hr;simp only[ym,nJ,gA,jW] at hr;replace hr:r=((decide (m=0)&&(Ce.right ⟨D,C,B,a4⟩&&(Ce.right ⟨A,b2,z,y⟩&&(decide (X=0)&&(decide (T=⟨#[]⟩)&&(decide (I=false)&&(decide (F=0))))))))):=by rw[hr]
 clear hm;obtain⟨K,d⟩: ∃ p,p=Ce.right ⟨D,C,B,a4⟩:=⟨_,rfl⟩;rw[<-d] at hr;obtain⟨J,b⟩: ∃ p,p=Ce.right ⟨A,b2,z,y⟩:=⟨_,rfl⟩;rw[<-b] at hr;have G:=fun(w:World)=>yeA D C B a4 w;rw[<-d] at G;have H1:=aL G;clear G;have E:=fun(w:World)=>yeA A b2 z y w;rw[<-b] at E;have H2:=aL E;clear E;have a:True:=trivial;by_cases hX:X=0;rotate_left
 ·refine zP ?_;intro HE d0 d1 d2;clear hr d b;go_enter func44,ntmps44
  go_wp2_with (first|fail|(have f:=a;clear a;(go_at_call 71;refine qT ?_;intro w1 ab ao ay az af ai am al aj ag ap))|(go_at_call 71;refine xu ?_;refine pt ?_;intro e j q l n i x t u v g o))
  exact jL
 subst hX;cases I;rotate_left
 ·refine kJ ?_;intro HE;clear hr d b;go_enter func44,ntmps44
  go_wp2_with (first|fail|(have f:=a;clear a;(go_at_call 71;refine qT ?_;intro w1 ab ao ay az af ai am al aj ag ap))|(go_at_call 71;refine xu ?_;refine pt ?_;intro e j q l n i x t u v g o))
  exact jL
 by_cases hF:F=0;rotate_left
 ·refine zJ ?_;intro HE d0 d1;clear hr d b;go_enter func44,ntmps44
  go_wp2_with (first|fail|(have f:=a;clear a;(go_at_call 71;refine qT ?_;intro w1 ab ao ay az af ai am al aj ag ap))|(go_at_call 71;refine xu ?_;refine pt ?_;intro e j q l n i x t u v g o))
  exact jL
 subst hF;try simp only[nJ,gA,jW] at hr
 cases K
 ·refine kJ ?_;intro HE;clear hr d b;go_enter func44,ntmps44
  go_wp2_with (first|fail|(have f:=a;clear a;(go_at_call 71;refine qT ?_;intro w1 ab ao ay az af ai am al aj ag ap))|(go_at_call 71;refine xu ?_;refine pt ?_;intro e j q l n i x t u v g o))
  exact jL
 cases J
 ·refine kJ ?_;intro HE;clear hr d b;go_enter func44,ntmps44
  go_wp2_with (first|fail|(have f:=a;clear a;(go_at_call 71;refine qT ?_;intro w1 ab ao ay az af ai am al aj ag ap))|(go_at_call 71;refine xu ?_;refine pt ?_;intro e j q l n i x t u v g o))
  exact jL
 try simp only[gA,jW] at hr
 clear d b;by_cases gP:T=⟨#[]⟩;rotate_left
 ·refine V3 ?_;intro HE d0 d1;clear hr gP;go_enter func44,ntmps44
  go_wp2_with (first|fail|(have f:=a;clear a;(go_at_call 71;refine qT ?_;intro w1 ab ao ay az af ai am al aj ag ap))|(go_at_call 71;refine xu ?_;refine pt ?_;intro e j q l n i x t u v g o))
  exact jL
 subst gP;try simp only[nJ,jW] at hr
 by_cases hc:m=0
 ·refine yO ?_;intro HE;subst hc;clear hr;go_enter func44,ntmps44
  go_wp2_with (first|fail|(have f:=a;clear a;(go_at_call 71;refine qT ?_;intro w1 ab ao ay az af ai am al aj ag ap))|(go_at_call 71;refine xu ?_;refine pt ?_;intro e j q l n i x t u v g o))
  exact jL
 ·refine N5 ?_;intro HE i8;clear hr hc;go_enter func44,ntmps44
  go_wp2_with (first|fail|(have f:=a;clear a;(go_at_call 71;refine qT ?_;intro w1 ab ao ay az af ai am al aj ag ap))|(go_at_call 71;refine xu ?_;refine pt ?_;intro e j q l n i x t u v g o))
  exact jL
def ytM (X:Nat) (T:ByteArray) (I:Bool) (F i g:Int) (f a4:Bool) (e b2:Int) (d b:Bool) (s:Option Addr) (m c:Nat) (o:List Tr) (w:World) (hm:m=o.length) (A:T.size<=9223372036854775807):Calls prog 44 #[.agg #[.int .i64 7,.int .u64 (X:Nat),.string T,.bool I,.int .i64 F,.int .i64 i,.int .i64 g,.bool f,.bool a4,.int .i64 e,.int .i64 b2,.bool d,.bool b,.slice s m c]] w (RetB (.bool (g8 (.mk 7 X T.data.toList I F ⟨i,g,f,a4⟩ ⟨e,b2,d,b⟩ o))) w):=by
 obtain⟨r,hr⟩:=bx (g8 (.mk 7 X T.data.toList I F ⟨i,g,f,a4⟩ ⟨e,b2,d,b⟩ o));rw[<-hr];rw[yhB,<-hm] at hr;unfold jY at hr;simp only[ym,nJ,gA,jW] at hr;replace hr:r=((decide (m=1)&&((decide (T=⟨#[45]⟩) || decide (T=⟨#[43]⟩))&&(decide (X=0)&&(decide (I=false)&&(decide (F=0)&&(i6 i g f a4 0 0 false false&&(i6 e b2 d b 0 0 false false)))))))):=by rw[hr]
 clear hm;obtain⟨v,a⟩: ∃ p,p=(decide (T=⟨#[45]⟩) || decide (T=⟨#[43]⟩)):=⟨_,rfl⟩;rw[<-a] at hr;by_cases hX:X=0;rotate_left
 ·refine zP ?_;intro HE d0 d1 d2;clear hr a;go_enter func44,ntmps44
  go_wp2_with (first|fail)
  exact jL
 subst hX;cases I;rotate_left
 ·refine kJ ?_;intro HE;clear hr a;go_enter func44,ntmps44
  go_wp2_with (first|fail)
  exact jL
 by_cases hF:F=0;rotate_left
 ·refine zJ ?_;intro HE d0 d1;clear hr a;go_enter func44,ntmps44
  go_wp2_with (first|fail)
  exact jL
 subst hF;obtain⟨u,l⟩: ∃ p,p=i6 i g f a4 0 0 false false:=⟨_,rfl⟩;rw[<-l] at hr;replace l:=l.symm;cases u
 ·refine kJ ?_;intro HE;clear hr a;go_enter func44,ntmps44
  go_wp2_with (first|fail)
  exact jL
 obtain⟨t,n⟩: ∃ p,p=i6 e b2 d b 0 0 false false:=⟨_,rfl⟩;rw[<-n] at hr;replace n:=n.symm;cases t
 ·refine kJ ?_;intro HE;clear hr a;go_enter func44,ntmps44
  go_wp2_with (first|fail)
  exact jL
 try simp only[nJ,gA,jW] at hr
 cases v
 ·refine kJ ?_;intro HE;have j:=Ss.1 a.symm;have q:(T.toList==[45])=false:=by rw[yb];exact j.1
  have y:(T.toList==[43])=false:=by rw[yb];exact j.2
  clear j;clear hr a;go_enter func44,ntmps44
  go_wp2_with (first|fail)
  exact jL
 have z:=zL.1 a.symm;try simp only[gA,jW] at hr
 clear a;rcases z with h|h
 ·have q:(T.toList==[45])=true:=by rw[yb];exact h
  clear h;by_cases hc:m=1
  ·refine yO ?_;intro HE;subst hc;clear hr;go_enter func44,ntmps44
   go_wp2_with (first|fail)
   exact jL
  ·refine Ry ?_;intro HE;have x:((m:Int)==1)=false:=nY;clear hr hc;go_enter func44,ntmps44
   go_wp2_with (first|fail)
   exact jL
 ·have q:(T.toList==[43])=true:=by rw[yb];exact h
  have y:(T.toList==[45])=false:=by rw[vx h,sT];rfl
  clear h;by_cases hc:m=1
  ·refine yO ?_;intro HE;subst hc;clear hr;go_enter func44,ntmps44
   go_wp2_with (first|fail)
   exact jL
  ·refine Ry ?_;intro HE;have x:((m:Int)==1)=false:=nY;clear hr hc;go_enter func44,ntmps44
   go_wp2_with (first|fail)
   exact jL
def ysW (X:Nat) (T:ByteArray) (I:Bool) (F g f:Int) (e a4:Bool) (d b2:Int) (b a:Bool) (s:Option Addr) (m c:Nat) (n:List Tr) (w:World) (hm:m=n.length) (y:T.size<=9223372036854775807):Calls prog 44 #[.agg #[.int .i64 8,.int .u64 (X:Nat),.string T,.bool I,.int .i64 F,.int .i64 g,.int .i64 f,.bool e,.bool a4,.int .i64 d,.int .i64 b2,.bool b,.bool a,.slice s m c]] w (RetB (.bool (g8 (.mk 8 X T.data.toList I F ⟨g,f,e,a4⟩ ⟨d,b2,b,a⟩ n))) w):=by
 obtain⟨r,hr⟩:=bx (g8 (.mk 8 X T.data.toList I F ⟨g,f,e,a4⟩ ⟨d,b2,b,a⟩ n));rw[<-hr];rw[yjW,<-hm] at hr;unfold jY at hr;simp only[ym,nJ,gA,jW] at hr;replace hr:r=((decide (m=2)&&(decide (0<Fx.eT T.data.toList)&&(decide (X=0)&&(decide (I=false)&&(decide (F=0)&&(i6 g f e a4 0 0 false false&&(i6 d b2 b a 0 0 false false)))))))):=by rw[hr]
 clear hm;obtain⟨u,aQ⟩: ∃ p,p=decide (0<Fx.eT T.data.toList):=⟨_,rfl⟩;rw[<-aQ] at hr;obtain⟨L,o⟩:=bx (Fx.eT T.data.toList);have i:=fun(w:World)=>yth T w;rw[<-o] at i aQ;have HF:=aL i;clear i o;by_cases hX:X=0;rotate_left
 ·refine zP ?_;intro HE d0 d1 d2;clear hr aQ;go_enter func44,ntmps44
  go_wp2_with (first|fail|(go_at_call 56;refine og ?_))
  exact jL
 subst hX;cases I;rotate_left
 ·refine kJ ?_;intro HE;clear hr aQ;go_enter func44,ntmps44
  go_wp2_with (first|fail|(go_at_call 56;refine og ?_))
  exact jL
 by_cases hF:F=0;rotate_left
 ·refine zJ ?_;intro HE d0 d1;clear hr aQ;go_enter func44,ntmps44
  go_wp2_with (first|fail|(go_at_call 56;refine og ?_))
  exact jL
 subst hF;obtain⟨t,j⟩: ∃ p,p=i6 g f e a4 0 0 false false:=⟨_,rfl⟩;rw[<-j] at hr;replace j:=j.symm;cases t
 ·refine kJ ?_;intro HE;clear hr aQ;go_enter func44,ntmps44
  go_wp2_with (first|fail|(go_at_call 56;refine og ?_))
  exact jL
 obtain⟨q,l⟩: ∃ p,p=i6 d b2 b a 0 0 false false:=⟨_,rfl⟩;rw[<-l] at hr;replace l:=l.symm;cases q
 ·refine kJ ?_;intro HE;clear hr aQ;go_enter func44,ntmps44
  go_wp2_with (first|fail|(go_at_call 56;refine og ?_))
  exact jL
 try simp only[nJ,gA,jW] at hr
 cases u
 ·refine kJ ?_;intro HE;have v: ¬ (0:Int)<(L:Int):=M0;clear hr aQ;go_enter func44,ntmps44
  go_wp2_with (first|fail|(go_at_call 56;refine og ?_))
  exact jL
 have v:(0:Int)<(L:Int):=L1;try simp only[gA,jW] at hr
 clear aQ;by_cases hc:m=2
 ·refine yO ?_;intro HE;subst hc;clear hr;go_enter func44,ntmps44
  go_wp2_with (first|fail|(go_at_call 56;refine og ?_))
  exact jL
 ·refine Ry ?_;intro HE;have x:((m:Int)==2)=false:=nY;clear hr hc;go_enter func44,ntmps44
  go_wp2_with (first|fail|(go_at_call 56;refine og ?_))
  exact jL
def yuS (X:Nat) (T:ByteArray) (I:Bool) (F i g:Int) (f a4:Bool) (e b2:Int) (d b:Bool) (s:Option Addr) (m c:Nat) (n:List Tr) (w:World) (hm:m=n.length) (x:T.size<=9223372036854775807):Calls prog 44 #[.agg #[.int .i64 9,.int .u64 (X:Nat),.string T,.bool I,.int .i64 F,.int .i64 i,.int .i64 g,.bool f,.bool a4,.int .i64 e,.int .i64 b2,.bool d,.bool b,.slice s m c]] w (RetB (.bool (g8 (.mk 9 X T.data.toList I F ⟨i,g,f,a4⟩ ⟨e,b2,d,b⟩ n))) w):=by
 obtain⟨r,hr⟩:=bx (g8 (.mk 9 X T.data.toList I F ⟨i,g,f,a4⟩ ⟨e,b2,d,b⟩ n));rw[<-hr];rw[ygT,<-hm] at hr;unfold jY at hr;simp only[ym,nJ,gA,jW] at hr;replace hr:r=((decide (m=1)&&(decide (T=⟨#[37]⟩)&&(decide (X=0)&&(decide (I=false)&&(decide (F=0)&&(i6 i g f a4 0 0 false false&&(i6 e b2 d b 0 0 false false)))))))):=by rw[hr]
 clear hm;obtain⟨t,a⟩: ∃ p,p=decide (T=⟨#[37]⟩):=⟨_,rfl⟩;rw[<-a] at hr;by_cases hX:X=0;rotate_left
 ·refine zP ?_;intro HE d0 d1 d2;clear hr a;go_enter func44,ntmps44
  go_wp2_with (first|fail)
  exact jL
 subst hX;cases I;rotate_left
 ·refine kJ ?_;intro HE;clear hr a;go_enter func44,ntmps44
  go_wp2_with (first|fail)
  exact jL
 by_cases hF:F=0;rotate_left
 ·refine zJ ?_;intro HE d0 d1;clear hr a;go_enter func44,ntmps44
  go_wp2_with (first|fail)
  exact jL
 subst hF;obtain⟨q,j⟩: ∃ p,p=i6 i g f a4 0 0 false false:=⟨_,rfl⟩;rw[<-j] at hr;replace j:=j.symm;cases q
 ·refine kJ ?_;intro HE;clear hr a;go_enter func44,ntmps44
  go_wp2_with (first|fail)
  exact jL
 obtain⟨o,l⟩: ∃ p,p=i6 e b2 d b 0 0 false false:=⟨_,rfl⟩;rw[<-l] at hr;replace l:=l.symm;cases o
 ·refine kJ ?_;intro HE;clear hr a;go_enter func44,ntmps44
  go_wp2_with (first|fail)
  exact jL
 try simp only[nJ,gA,jW] at hr
 cases t
 ·refine kJ ?_;intro HE;have u:(T.toList==[37])=false:=by rw[yb,<-a]
  clear hr a;go_enter func44,ntmps44
  go_wp2_with (first|fail)
  exact jL
 have u:(T.toList==[37])=true:=by rw[yb,<-a]
 try simp only[gA,jW] at hr
 clear a;by_cases hc:m=1
 ·refine yO ?_;intro HE;subst hc;clear hr;go_enter func44,ntmps44
  go_wp2_with (first|fail)
  exact jL
 ·refine Ry ?_;intro HE;have v:((m:Int)==1)=false:=nY;clear hr hc;go_enter func44,ntmps44
  go_wp2_with (first|fail)
  exact jL
def yw4 (X:Nat) (T:ByteArray) (I:Bool) (F i g:Int) (f a4:Bool) (e b2:Int) (d b:Bool) (s:Option Addr) (m c:Nat) (o:List Tr) (w:World) (hm:m=o.length) (x:T.size<=9223372036854775807):Calls prog 44 #[.agg #[.int .i64 10,.int .u64 (X:Nat),.string T,.bool I,.int .i64 F,.int .i64 i,.int .i64 g,.bool f,.bool a4,.int .i64 e,.int .i64 b2,.bool d,.bool b,.slice s m c]] w (RetB (.bool (g8 (.mk 10 X T.data.toList I F ⟨i,g,f,a4⟩ ⟨e,b2,d,b⟩ o))) w):=by
 obtain⟨r,hr⟩:=bx (g8 (.mk 10 X T.data.toList I F ⟨i,g,f,a4⟩ ⟨e,b2,d,b⟩ o));rw[<-hr];rw[yiL,<-hm] at hr;unfold jY at hr;simp only[ym,nJ,gA,jW] at hr;replace hr:r=((decide (m<=30)&&(Fx.oF T.data.toList&&(decide (X=0)&&(decide (I=false)&&(decide (F=0)&&(i6 i g f a4 0 0 false false&&(i6 e b2 d b 0 0 false false)))))))):=by rw[hr]
 clear hm;obtain⟨u,a⟩: ∃ p,p=Fx.oF T.data.toList:=⟨_,rfl⟩;rw[<-a] at hr;have j:=fun(w:World)=>ywU T w x;rw[<-a] at j;have HF:=aL j;clear j;by_cases hX:X=0;rotate_left
 ·refine zP ?_;intro HE d0 d1 d2;clear hr a;go_enter func44,ntmps44
  go_wp2_with (first|fail|(go_at_call 72;refine og ?_))
  exact jL
 subst hX;cases I;rotate_left
 ·refine kJ ?_;intro HE;clear hr a;go_enter func44,ntmps44
  go_wp2_with (first|fail|(go_at_call 72;refine og ?_))
  exact jL
 by_cases hF:F=0;rotate_left
 ·refine zJ ?_;intro HE d0 d1;clear hr a;go_enter func44,ntmps44
  go_wp2_with (first|fail|(go_at_call 72;refine og ?_))
  exact jL
 subst hF;obtain⟨t,l⟩: ∃ p,p=i6 i g f a4 0 0 false false:=⟨_,rfl⟩;rw[<-l] at hr;replace l:=l.symm;cases t
 ·refine kJ ?_;intro HE;clear hr a;go_enter func44,ntmps44
  go_wp2_with (first|fail|(go_at_call 72;refine og ?_))
  exact jL
 obtain⟨q,n⟩: ∃ p,p=i6 e b2 d b 0 0 false false:=⟨_,rfl⟩;rw[<-n] at hr;replace n:=n.symm;cases q
 ·refine kJ ?_;intro HE;clear hr a;go_enter func44,ntmps44
  go_wp2_with (first|fail|(go_at_call 72;refine og ?_))
  exact jL
 try simp only[nJ,gA,jW] at hr
 cases u
 ·refine kJ ?_;intro HE;clear hr a;go_enter func44,ntmps44
  go_wp2_with (first|fail|(go_at_call 72;refine og ?_))
  exact jL
 try simp only[gA,jW] at hr
 clear a;by_cases hc:m<=30
 ·refine yO ?_;intro HE;have v:(m:Int)<=30:=aG;clear hr hc;go_enter func44,ntmps44
  go_wp2_with (first|fail|(go_at_call 72;refine og ?_))
  exact jL
 ·refine Ry ?_;intro HE;have v: ¬ (m:Int)<=30:=aG;clear hr hc;go_enter func44,ntmps44
  go_wp2_with (first|fail|(go_at_call 72;refine og ?_))
  exact jL
def ymP (K:Int) (X:Nat) (T:ByteArray) (I:Bool) (F g f:Int) (e a4:Bool) (d b2:Int) (b a:Bool) (s:Option Addr) (m c:Nat) (i:List Tr) (w:World) (h: ¬ (1<=K/\K<=10)):Calls prog 44 #[.agg #[.int .i64 K,.int .u64 (X:Nat),.string T,.bool I,.int .i64 F,.int .i64 g,.int .i64 f,.bool e,.bool a4,.int .i64 d,.int .i64 b2,.bool b,.bool a,.slice s m c]] w (RetB (.bool (g8 (.mk K X T.data.toList I F ⟨g,f,e,a4⟩ ⟨d,b2,b,a⟩ i))) w):=by
 have hv:g8 (.mk K X T.data.toList I F ⟨g,f,e,a4⟩ ⟨d,b2,b,a⟩ i)=false:=by exact yjc
 rw[hv];clear hv;have G:(K==1)=false:=gN.2 aG;have v:(K != 1)=true:=rZ.2 aG;have E:(K==2)=false:=gN.2 aG;have u:(K != 2)=true:=rZ.2 aG;have D:(K==3)=false:=gN.2 aG;have t:(K != 3)=true:=rZ.2 aG;have C:(K==4)=false:=gN.2 aG;have r:(K != 4)=true:=rZ.2 aG;have B:(K==5)=false:=gN.2 aG;have q:(K != 5)=true:=rZ.2 aG;have A:(K==6)=false:=gN.2 aG;have o:(K != 6)=true:=rZ.2 aG;have z:(K==7)=false:=gN.2 aG;have n:(K != 7)=true:=rZ.2 aG;have y:(K==8)=false:=gN.2 aG;have l:(K != 8)=true:=rZ.2 aG;have x:(K==9)=false:=gN.2 aG;have k:(K != 9)=true:=rZ.2 aG;have d10:(K==10)=false:=gN.2 aG;have j:(K != 10)=true:=rZ.2 aG;clear h;go_enter func44,ntmps44
 go_wp2
 all_goals go_ret
 all_goals exact RetB.of rfl dt
def yuX (t:Tr) (v:Value) (lo hi:Nat) (w:World) (h:TreeAt w lo hi t v) (f:t.txt.length<=9223372036854775807):Calls prog 44 #[trv t v] w (RetB (.bool (g8 t)) w):=by
 obtain⟨K,X,T,I,F,r,q,o,a4,n,b2,l,k,a,m,c,rfl,i,e,b, -, -, -⟩:=h.flat;rw[i];obtain⟨ks,g⟩:=bx (t.kids);rw[<-g] at e b;have d:T.size<=9223372036854775807:=by rw[e] at f;rw[<-dN];exact f
 rw[e];clear i e g h f;by_cases j:1<=K/\K<=10
 ·have:K=1∨K=2∨K=3∨K=4∨K=5∨K=6∨K=7∨K=8∨K=9∨K=10:=aG;rcases this with rfl|rfl|rfl|rfl|rfl|rfl|rfl|rfl|rfl|rfl
  ·exact yqn _ _ _ _ _ _ _ _ _ _ _ _ _ _ _ _ _ b d
  ·exact ytZ _ _ _ _ _ _ _ _ _ _ _ _ _ _ _ _ _ b d
  ·exact yuJ _ _ _ _ _ _ _ _ _ _ _ _ _ _ _ _ _ b d
  ·exact ynP _ _ _ _ _ _ _ _ _ _ _ _ _ _ _ _ _ b d
  ·exact yt3 _ _ _ _ _ _ _ _ _ _ _ _ _ _ _ _ _ b d
  ·exact ypm _ _ _ _ _ _ _ _ _ _ _ _ _ _ _ _ _ b d
  ·exact ytM _ _ _ _ _ _ _ _ _ _ _ _ _ _ _ _ _ b d
  ·exact ysW _ _ _ _ _ _ _ _ _ _ _ _ _ _ _ _ _ b d
  ·exact yuS _ _ _ _ _ _ _ _ _ _ _ _ _ _ _ _ _ b d
  ·exact yw4 _ _ _ _ _ _ _ _ _ _ _ _ _ _ _ _ _ b d
 ·exact ymP _ _ _ _ _ _ _ _ _ _ _ _ _ _ _ _ _ _ j
end
end Go.Proofs.YtilbpmimoijfhaaGreatDoor
