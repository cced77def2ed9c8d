/- Formulas: whether a node has nothing but what its kind has; a function's name, by the program. -/
import Derived.Test.YtilbpmimoijfhaaGreatDoorY2
namespace Go.Proofs.YtilbpmimoijfhaaGreatDoor
set_option linter.all false
set_option maxRecDepth 100000
set_option maxHeartbeats 16000000
open Go.RowKit Go.Proofs.Tryz
section
attribute [local go_sem high] W2 Xn Wc
def jY (X o:Nat) (T p:ByteArray) (I q:Bool) (F r n a m b:Int) (l c a4 d:Bool) (k e b2 f:Int) (j g i h:Bool):Bool:=
 decide (X=o)&&(decide (T=p)&&(decide (I=q)&&(decide (F=r)&&(i6 n m l a4 a b c d&&i6 k b2 j i e f g h))))
def yvI {s t:ByteArray} (h:s.toList=t.toList):s=t:=by rw[sT,sT] at h;cases s;cases t;simp at h;rw[h]
def zG (K N:Int) (X a:Nat) (T d:ByteArray) (I f:Bool) (F g G i E j:Int) (D l a4 m:Bool) (C o b2 t:Int) (B u A v:Bool) (s J:Option Addr) (n L c M:Nat) (w:World):
 Calls prog 68 #[.agg #[.int .i64 K,.int .u64 (X:Nat),.string T,.bool I,.int .i64 F,.int .i64 G,.int .i64 E,.bool D,.bool a4,.int .i64 C,.int .i64 b2,.bool B,.bool A,.slice s n c],.agg #[.int .i64 N,.int .u64 (a:Nat),.string d,.bool f,.int .i64 g,.int .i64 i,.int .i64 j,.bool l,.bool m,.int .i64 o,.int .i64 t,.bool u,.bool v,.slice J L M]] w (RetB (.bool (jY X a T d I f F g G i E j D l a4 m C o b2 t B u A v)) w):=by
 obtain⟨r,hr⟩:=bx (jY X a T d I f F g G i E j D l a4 m C o b2 t B u A v);rw[<-hr];unfold jY at hr;by_cases b:X=a;rotate_left
 ·have HE:=aL (show r=false by rw[hr,eL b];simp);have U:((X:Int)==(a:Int))=false:=nY;have Q: ¬ X=a:=b;have P: ¬ (X:Int)=(a:Int):=aG;have O:(X==a)=false:=gN.2 b;clear hr b;exact Qp
 subst b;by_cases z:T=d;rotate_left
 ·have HE:=aL (show r=false by rw[hr,eL z];simp);have S:(T.toList==d.toList)=false:=by simp only[gN,tq];exact fun e=>z (yvI e)
  clear hr z;exact Qp
 subst z;by_cases y:I=f;rotate_left
 ·have HE:=aL (show r=false by rw[hr,eL y];simp);cases I<;>cases f<;>first|(exfalso;exact y rfl)|(clear hr y;go_enter func68,ntmps68;go_wp2;go_ret;exact RetB.of (dZ Value.bool HE.out.symm) dt)
 subst y;by_cases x:F=g;rotate_left
 ·have HE:=aL (show r=false by rw[hr,eL x];simp);have R:(F==g)=false:=gN.2 x;clear hr x;exact Qp
 subst x;obtain⟨p,H⟩:=bx (i6 G E D a4 i j l m);obtain⟨q,hq⟩:=bx (i6 C b2 B A o t u v);rw[<-H,<-hq] at hr;simp only[nJ,gA] at hr;replace H:=H.symm;replace hq:=hq.symm;cases p
 ·refine yg ?_;intro HE;clear hr hq;exact Qp
 ·cases q
  ·refine yg ?_;intro HE;clear hr;exact Qp
  ·have HE:=aL (show r=true by rw[hr];rfl);clear hr;exact Qp
def BU:List UInt8:=[65,66,67,68,69,70,71,72,73,74,75,76,77,78,79,80,81,82,83,84,85,86,87,88,89,90,48,49,50,51,52,53,54,55,56,57,46,95]
def ysn (c:UInt8):BU.contains c=Fx.ps c:=by have h: ∀ i:Fin 256,BU.contains (UInt8.ofNat i.1)=Fx.ps (UInt8.ofNat i.1):=tX;exact yah
def yhZ (p:UInt8->Bool) (m:List UInt8):m.dropWhile p=[]↔m.all p=true:=by
 induction m with
 |nil=>simp
 |cons c m a=>
  by_cases h:p c=true
  ·rw[RM h,a,qb,h,gA]
  ·rw[yV h,qb];simp[h]
def ydo (l:List UInt8):Lib.trimS l BU=[]↔l.all Fx.ps=true:=by
 have d:(fun c=>BU.contains c)=Fx.ps:=funext ysn;unfold Lib.trimS Lib.trimLeftS Lib.trimRightS;rw[d];constructor
 ·intro h;have b: ∀ m:List UInt8,m.dropWhile Fx.ps=[]->m.all Fx.ps=true:=fun m hm=>(yhZ _ _).1 hm;have a:=b _ h
  cases e:l.reverse.dropWhile Fx.ps with
  |nil=>have:=b _ e;rwa[Yw] at this
  |cons c m=>
   rw[e,Yw,qb,fs] at a
   have:=List.head_dropWhile_not Fx.ps (by rw[e];simp:l.reverse.dropWhile Fx.ps≠[])
   simp only[e,List.head_cons] at this
   rw[a.1] at this;cases this
 ·intro h
  have:l.reverse.dropWhile Fx.ps=[]:=by rw[yhZ,Yw];exact h
  rw[this];rfl
def ykw (s:ByteArray) (w:World) (C:s.size<=9223372036854775807):Calls prog 70 #[.string s] w (RetB (.bool (Fx.oF s.data.toList)) w):=by
 have m:=fun(w:World)=>yio lays160 cI s ⟨BU.toArray⟩ w C bL (ascii_of_all bL);obtain⟨R,d⟩:=bx (⟨(Lib.trimS s.data.toList BU).toArray⟩:ByteArray);obtain⟨r,a⟩:=bx (Fx.oF s.data.toList);rw[<-a];replace m: ∀ w:World,Calls prog 99 #[.string s,.string ⟨BU.toArray⟩] w (RetB (.string R) w):=by rw[d];exact m
 have g:=aL m;clear m;have b:s.data.toList.length=s.size:=dN s;by_cases x:s.size=0
 ·have hn:s.data.toList=[]:=sV.1 aG;have HE:=aL (show r=false by rw[a,hn];rfl);have E:s.toList.isEmpty=true:=pB x
  have D:s=ByteArray.empty:=by
   have:s.data= #[]:=by rw[<-Array.toList_eq_nil_iff];exact hn
   cases s;simp only at this;rw[this];rfl
  clear a hn d b;subst D;go_enter func70,ntmps70
  go_wp2_with (go_at_call 99;(refine(g.out _).mono ?_);rintro e i ⟨rfl,k⟩)
  exact fD
 obtain⟨c,t,j⟩: ∃ c t,s.data.toList=c::t:=by
  cases e:s.data.toList with
  |nil=>rw[e] at b;simp at b;omega
  |cons c t=>exact⟨c,t,rfl⟩
 have n:Fx.oF s.data.toList=(decide (s.size<=40)&&(s.data.toList.all Fx.ps&&Fx.xj c)):=by rw[<-b,j];rfl
 have l:s[0]=c:=by have:=bs_getElem? s 0 aG;rw[j] at this;simpa using this.symm
 have E:s.toList.isEmpty=false:=oj aG;have F: ¬ s=ByteArray.empty:=fun e=>x (by rw[e];rfl);have G:0<s.size:=aG;rw[n] at a;by_cases o:s.size<=40;rotate_left
 ·have HE:=aL (show r=false by rw[a,eL o];rfl);have B: ¬ (s.size:Int)<=40:=aG;clear a d b j n l;go_enter func70,ntmps70
  go_wp2_with (go_at_call 99;(refine(g.out _).mono ?_);rintro e i ⟨rfl,k⟩)
  exact fD
 have B:(s.size:Int)<=40:=aG;by_cases f:s.data.toList.all Fx.ps=true;rotate_left
 ·have HE:=aL (show r=false by rw[a,Ny.2 f];simp)
  have q:R.toList.isEmpty=false:=by rw[d,sT];have: ¬ Lib.trimS s.data.toList BU=[]:=fun e=>f ((ydo _).1 e);show(Lib.trimS s.data.toList BU).isEmpty =false;simpa using this
  have y: ¬ R=ByteArray.empty:=fun e=>by rw[e,pB rfl] at q;cases q
  clear a d b j n l o f;go_enter func70,ntmps70
  go_wp2_with (go_at_call 99;(refine(g.out _).mono ?_);rintro e i ⟨rfl,k⟩)
  exact fD
 have q:R.toList.isEmpty=true:=by rw[d,(ydo _).2 f];exact pB rfl
 have y:R=⟨#[]⟩:=by rw[d,(ydo _).2 f]
 rw[f,fv o,gA,gA] at a;unfold Fx.xj at a;rw[<-l] at a;clear d j n l o f;subst y;by_cases v:65<=s[0].toNat;rotate_left
 ·have HE:=aL (show r=false by rw[a,eL v];rfl);have A: ¬ (65:Int)<=(s[0].toNat :Int):=aG;clear a b;go_enter func70,ntmps70
  go_wp2_with (go_at_call 99;(refine(g.out _).mono ?_);rintro e i ⟨rfl,k⟩)
  exact fD
 have A:(65:Int)<=(s[0].toNat :Int):=aG;by_cases u:s[0].toNat <=90
 ·have HE:=aL (show r=true by rw[a,fv v,fv u];rfl);have z:(s[0].toNat :Int)<=90:=aG;clear a b;go_enter func70,ntmps70
  go_wp2_with (go_at_call 99;(refine(g.out _).mono ?_);rintro e i ⟨rfl,k⟩)
  exact fD
 ·have HE:=aL (show r=false by rw[a,eL u];simp);have z: ¬ (s[0].toNat :Int)<=90:=aG;clear a b;go_enter func70,ntmps70
  go_wp2_with (go_at_call 99;(refine(g.out _).mono ?_);rintro e i ⟨rfl,k⟩)
  go_ret
  exact RetB.of (dZ Value.bool (by rw[HE.out];simp only[B7];omega)) dt
end
end Go.Proofs.YtilbpmimoijfhaaGreatDoor
