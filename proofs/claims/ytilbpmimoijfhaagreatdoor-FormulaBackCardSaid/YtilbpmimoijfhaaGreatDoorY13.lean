/- Two words take in the limbs of a natural, the highest first: what a loop's round keeps. -/
import Derived.Test.YtilbpmimoijfhaaGreatDoorY6
import Derived.Test.YtilbpmimoijfhaaGreatDoorY7
import Derived.Test.YtilbpmimoijfhaaGreatDoorY8
import Derived.Test.YtilbpmimoijfhaaGreatDoorY9
import Derived.Test.YtilbpmimoijfhaaGreatDoorY10
import Derived.Test.YtilbpmimoijfhaaGreatDoorY12
import Derived.Test.YtilbpmimoijfhaaGreatDoorY5
namespace Go.Proofs.YtilbpmimoijfhaaGreatDoor
set_option linter.all false
set_option maxRecDepth 100000
set_option maxHeartbeats 16000000
open Go.RowKit Go.Proofs.Tryz
def Na.ymY {L:List Nat} {k:Nat} (h:k<L.length):Na.val (L.drop k)=Na.val (L.drop (k+1))*4294967296+L[k]:=by rw[xE h,Na.val,fM,Ay]
def yes (L:List Nat) (g:Nat) (w:World) (a:Value) (wr:World):Prop:= ∃ (i hi lo:Nat),i<=L.length/\a= .int .i64 i/\hi<18446744073709551616/\lo<18446744073709551616/\
 Hid (hi=Na.val (L.drop (L.length-i)) / 18446744073709551616 % 18446744073709551616)/\Hid (lo=Na.val (L.drop (L.length-i)) % 18446744073709551616)/\Hid (C2 wr g hi lo)/\Hid (Below w.heap.size w wr)
def ydy (L:List Nat):0=Na.val (L.drop (L.length-0)) / 18446744073709551616 % 18446744073709551616/\0=Na.val (L.drop (L.length-0)) % 18446744073709551616:=by rw[zF,yen];exact⟨rfl,rfl⟩
def yc4 {L:List Nat} {i hi lo:Nat} (g:i<L.length) (f:Na.OK L) (e:hi=Na.val (L.drop (L.length-i)) / 18446744073709551616 % 18446744073709551616) (hl:lo=Na.val (L.drop (L.length-i)) % 18446744073709551616):
 ∃ (m j d H D P:Nat) (hj:j<L.length),((L.length:Nat):Int)-1=(m:Int)/\(m:Int)-(i:Int)=(j:Int)/\d=L[j]/\d<4294967296/\H<18446744073709551616/\D<18446744073709551616/\P<18446744073709551616/\
   (hi*18446744073709551616+lo)*2^32 / 18446744073709551616 % 18446744073709551616=H/\(hi*18446744073709551616+lo)*2^32 % 18446744073709551616=D/\bits BinOp.or IntKind.u64 (D:Int) (d:Int)=(P:Int)/\
   H=Na.val (L.drop (L.length-(i+1))) / 18446744073709551616 % 18446744073709551616/\P=Na.val (L.drop (L.length-(i+1))) % 18446744073709551616:=by
 obtain⟨j,hj⟩: ∃ j,L.length-(i+1)=j:=⟨_,rfl⟩;have a:j<L.length:=aG;have hd:L[j]<4294967296:=f _ (pK a);have hv:=Na.ymY a;rw[show j+1=L.length-i by omega] at hv;obtain⟨c,b⟩:=Fl.yq5 e hl hd;refine⟨L.length-1,j,L[j],_,_,_,a,by omega,by omega,rfl,hd,kk _ bL,kk _ bL,kk _ bL,c,rfl,b,?_,?_⟩
 ·rw[hj,hv]
 ·rw[hj,hv]
def yqU (hi lo H D:Nat) (a:hi<18446744073709551616) (hl:lo<18446744073709551616) (c:(hi*18446744073709551616+lo)*2^32 / 18446744073709551616 % 18446744073709551616=H) (b:(hi*18446744073709551616+lo)*2^32 % 18446744073709551616=D) (w:World):
 Calls prog 274 #[.agg #[.int .u64 hi,.int .u64 lo],.int .i64 32] w (RetB (.agg #[.int .u64 H,.int .u64 D]) w):=by
 have:=ydB hi lo 32 w a hl bL;rw[c,b] at this;exact this
def yez {N:Nat} {L:List Nat} (h:L.length=N):Na.val (L.drop (L.length-N))=Na.val L:=by rw[h,C7,sc]

def yrY (L:List Nat) (w:World) (a:Value) (wr:World):Prop:=yes L (w.heap.size+1) w a wr/\Hid (C2 wr w.heap.size 0 0)
def yr8 (a:Option Addr) (c:Nat) (L:List Nat) (w:World) (s:Sl w a c L) (hn:L.length<=1000000):
 Calls prog 290 #[.slice a L.length c] w (RetB (.agg #[.int .u64 ((Na.val L / 18446744073709551616 % 18446744073709551616:Nat):Int),.int .u64 ((Na.val L % 18446744073709551616:Nat):Int)]) w):=by
 have M:Hid (Below w.heap.size w ((w.alloc (.cells #[.int .u64 0,.int .u64 0] 95)).alloc (.cells #[.int .u64 0,.int .u64 0] 95))):=aL (((oA w.heap.size w).alloc cm _).alloc cn _);have E:Hid (C2 ((w.alloc (.cells #[.int .u64 0,.int .u64 0] 95)).alloc (.cells #[.int .u64 0,.int .u64 0] 95)) w.heap.size 0 0):=aL ((C2.new0 rfl).alloc _);have R:Hid (C2 ((w.alloc (.cells #[.int .u64 0,.int .u64 0] 95)).alloc (.cells #[.int .u64 0,.int .u64 0] 95)) (w.heap.size+1) 0 0):=aL (C2.new0 cn);obtain⟨G,F⟩:=ydy L;obtain⟨A,C,N⟩:=iJ G F s;clear s G F;go_enter func290,ntmps290
 go_wp2_with fail
 go_loopw [7] (fun t wr=>yrY L w t wr) (fun t _=>L.length-(intOf t).toNat)
 case atStart=>exact⟨⟨0,0,0,iH _,rfl,by decide,by decide,A,C,R,M⟩,E⟩
 case round=>
  clear M E R A C;obtain⟨⟨i,hi,lo,Kx,rfl,hh,hl,Q,O,HC,l⟩,f⟩:=hrel;by_cases aW:i<L.length
  ·obtain⟨m,j,d,H,D,P,hj,e1,e2,hd,jS,Y,hD,W,v1,v2,v3,v4,v5⟩:=yc4 aW N.out.ok Q.out O.out;obtain⟨b,o,rfl,hb,K⟩:=N.out.plain aG;have hx:=(l.out.cell (p:=⟨b,o+j,none⟩) hb).trans (K j hj);rw[<-hd] at hx;refine yeo ?_;intro H1 DB Ja c0 c1;have bQ:=HC.out.1.1;have J:=HC.out.2 0;have I:=HC.out.2 1;have Z:=l.out.size;clear K v1 v2 v4 v5 hd;go_wp2_with (first|(go_at_call 274;refine Ls ?_;refine Xz ?_;intro w1 ab ao ay az af;obtain⟨ai,am,al,aj,ag,ap⟩:=own6 ab (w.heap.size);obtain⟨be,bh,bg,bf,aV,ci⟩:=own6 ab (w.heap.size+1);obtain⟨jR,mi,mh,me,mc,mq⟩:=own6 ab (b)))
   obtain⟨X,g⟩:=bx (w1.setCells (w.heap.size+1) 0 [.int .u64 H,.int .u64 D]);change Code.wp _ _ _ _ (w1.setCells (w.heap.size+1) 0 [.int .u64 H,.int .u64 D]);have e:=(HC.out.on (ab.mono cm)).stored H D;have n:=((f.out.on (ab.mono cm)).setOther (o:=0) (u:= .int .u64 H) (show w.heap.size≠w.heap.size+1 by omega)).setOther (o:=1) (u:= .int .u64 D) (show w.heap.size≠w.heap.size+1 by omega);have q:=mX (B:=w.heap.size) (b:=w.heap.size+1) (ls _) [.int .u64 H,.int .u64 D] 0 (l.out.trans (ab.mono Z));have S:(w1.setCells (w.heap.size+1) 0 [.int .u64 H,.int .u64 D]).cell? ⟨b,o+j,none⟩=some (.int .u32 d):=(q.cell (p:=⟨b,o+j,none⟩) hb).trans ((l.out.cell (p:=⟨b,o+j,none⟩) hb).symm.trans hx);rw[<-g] at e q S ⊢;replace n:C2 X w.heap.size 0 0:=by rw[g];exact n
   have y:=e.1.get 0 rfl;have x:=e.1.get 1 rfl;have y0:=e.2 0;have y1:=e.2 1;have xl:=e.1.1;have U:=aL (e.low P);have PF:=aL (n.setOther (o:=1) (u:= .int .u64 P) (show w.heap.size≠w.heap.size+1 by omega));have T:=aL (q.setCell (p:=⟨w.heap.size+1,1,none⟩) (ls _) (.int .u64 P));clear g e n q c0 c1 hx J I;go_region
   go_wp2
   go_roundw
   case rel=>exact⟨⟨i+1,H,P,by omega,by go_num,Y,W,DB,Ja,aL U.out.drew,aL T.out.drew⟩,aL PF.out.drew⟩
   case measure=>simp[intOf];omega
  ·obtain rfl:i=L.length:=aG;have hv:=yez (L:=L) rfl;have Qn:=aL (Q.out.trans (by rw[hv]));have V:=aL (O.out.trans (by rw[hv]));have c0:=HC.out.1.get 0 rfl;have c1:=HC.out.1.get 1 rfl;have bQ:=HC.out.1.1;have r0:=f.out.1.get 0 rfl;have r1:=f.out.1.get 1 rfl;have J:=f.out.2 0;have I:=f.out.2 1;have r:=aL (f.out.stored hi lo);have z:=aL (mX (B:=w.heap.size) (b:=w.heap.size) cm [.int .u64 hi,.int .u64 lo] 0 l.out);go_wp2_with fail
   obtain⟨X,g⟩:=bx (wr.setCells w.heap.size 0 [.int .u64 hi,.int .u64 lo]);change bodyPost _ _ _ _ _ (wr.setCells w.heap.size 0 [.int .u64 hi,.int .u64 lo]);rw[<-g] at r z ⊢;have y:=r.out.1.get 0 rfl;have x:=r.out.1.get 1 rfl;refine eB (v:= .agg #[.int .u64 hi,.int .u64 lo]) (by(simp[results,results290,go_sem,y,x];done)) rfl (RetB.of (by rw[Qn.out,V.out]) z.out)

section
def Na.yop {a:List Nat} {n:Nat} (h:(Na.cut a).length =n+1) (i:n<(Na.cut a).length):(Na.cut a)[n]'i≠0:=by
 have g:Na.cut a≠[]:=by intro e;rw[e] at h;simp at h
 have f:(Na.cut a).getLast g≠0:=Na.yfe (Na.val a) g;rw[yfN] at f;have e:(Na.cut a).length -1=n:=aG;simp only[e] at f;exact f
section
variable (a:Option Addr) (c:Nat) (l:List Nat) (b:Option Addr) (d:Nat) (m:List Nat) (w:World) (h:Sl w a c l) (h':Sl w b d m) (hn:l.length<=1000000) (hm:m.length<=1000000)
include h h' hn hm
theorem ysl (f:(Na.big l || Na.big m)=false) (mp: ¬ Na.val l<Na.val m) (y:2<=Na.rt m):Calls prog 266 #[.slice a l.length c,.slice b m.length d] w (Ic (Na.sW l m) w):=by
 have H1:=aL (zN h h' hn hm false f);obtain⟨Y,gH⟩:=Na.yh5 f
 have E:Na.val m≠0:=fun e=>by have:=(Na.wd m).2 e;rw[Na.rt,this] at y;simp at y
 have G:=aL (show Na.sW l m=(Na.cl (Na.val l / Na.val m),Na.cl (Na.val l % Na.val m),0) by rw[Na.sW,f,bv cn,bv E]);refine zV ?_;intro hB
 have X:Na.rt m<=Na.rt l:=by
  rcases qt (Na.rt l) (Na.rt m) with g|g
  ·exact absurd (Na.yc5 h.ok h'.ok g) mp
  ·exact g
 obtain⟨n,o⟩: ∃ n,(Na.cut m).length =n+1+1:=⟨(Na.cut m).length -2,by have:(Na.cut m).length =Na.rt m:=rfl;omega⟩;obtain⟨K,A⟩: ∃ N,N=n+1:=⟨_,rfl⟩;obtain⟨N,t⟩:=bx (K+1);have P:(Na.cut m).length =N:=by rw[o,t,A]
 obtain⟨mm,L⟩: ∃ mm,(Na.cut l).length =N+mm:=⟨(Na.cut l).length -N,by
  have e1:(Na.cut m).length =Na.rt m:=rfl
  have G:(Na.cut l).length =Na.rt l:=rfl
  omega⟩
 have H:=Na.yop (a:=m) o aG;have i:=fun wr (hb:Below w.heap.size w wr)=>yn7 a c (Na.cut l) b d (Na.cut m) n K N mm wr (h.on hb).cut (h'.on hb).cut t A P L Y H;rw[Na.tA,Na.tA] at i;have z:=yq b d m _ (h'.on hB) hm;obtain⟨Q,D⟩: ∃ x,x=Na.rt m:=⟨_,rfl⟩;rw[<-D] at z;have jf:((Q:Int)==0)=false:=pp;have R:=aL z;refine yl5 ?_;intro HC r0 O dH;rw[<-O] at HC;have JU:=aL HC;have u:=fun wr (hb:Below w.heap.size w wr)=>sU b d m wr (h'.on hb) hm;have g:=fun wr (hb:Below w.heap.size w wr)=>sU a c l wr (h.on hb) hn;obtain⟨ql,M⟩: ∃ q,q=(Na.cut l).length :=⟨_,rfl⟩;obtain⟨C,s⟩: ∃ q,q=(Na.cut m).length :=⟨_,rfl⟩;rw[<-M] at i g;rw[<-s] at i u
 have ie:((C:Int)==1)=false:=by
  have:C=n+1+1:=by rw[s,o]
  simp;omega
 obtain⟨H4,H3,ZU⟩:=iJ u g i;clear f z HC mp y E X o A t P L H i O g u M s D;go_enter func266,ntmps266
 go_wp2_with (first|(go_at_call 216;refine cY H1.out ?_)|(go_at_call 217;refine cY R.out ?_)|(go_at_call 282;refine cp JU.out ?_;intro B hb2;have j:Below w.heap.size w B:=hB.trans (hb2.mono zE))|(go_at_call 219;refine cY (H4.out _ j) ?_)|(go_at_call 219;refine cY (H3.out _ j) ?_)|(go_at_call 283;refine cV (ZU.out _ j) ?_;rintro e w3 ⟨J,c1,I,c2,rfl,S,Z,bP,cf,aU⟩))
 have F:=j.size
 have up: ∀ {a:Option Addr} {k:Nat},Own w3 B.heap.size a k->Own w3 w.heap.size a k:=fun U W=>by obtain⟨b',o',e,T,V⟩:=U W;exact⟨b',o',e,dE F T,V⟩
 refine eB (v:= .tuple #[.slice J (Na.cl (Na.val l / Na.val m)).length c1,.slice I (Na.cl (Na.val l % Na.val m)).length c2,.int .i64 0]) Wm rfl (by rw[G.out];exact⟨J,c1,I,c2,rfl,S,up Z,bP,up cf,j.trans (aU.mono F)⟩)
theorem yl0:Calls prog 266 #[.slice a l.length c,.slice b m.length d] w (Ic (Na.sW l m) w):=by
 cases f:(Na.big l || Na.big m) with
 |true=>exact yqf a c l b d m w h h' hn hm f
 |false=>
  by_cases hz:Na.val m=0
  ·exact yt8 a c l b d m w h h' hn hm f hz
  ·by_cases g:Na.val l<Na.val m
   ·exact yrx a c l b d m w h h' hn hm f g
   ·have j:Na.rt m≠0:=fun e=>hz ((Na.wd m).1 (yM e))
    by_cases i:Na.rt m=1
    ·exact yoi a c l b d m w h h' hn hm f g i
    ·exact ysl a c l b d m w h h' hn hm f g aG
end
end

section
attribute [local go_sem] Fl.dv
def Z3 (W:World) (b:Nat):Prop:=W.cell? ⟨b,0,none⟩=some (.bool false)/\W.cell? ⟨b,1,none⟩=some (.string ⟨#[]⟩)/\W.cell? ⟨b,2,none⟩=some (.int .i64 0)/\(∀ o,W.frozen? ⟨b,o,none⟩=false)/\b<W.heap.size
def Z3.new (w:World):Z3 (w.alloc (Obj.cells #[Value.bool false,Value.string ⟨#[]⟩,Value.int IntKind.i64 0] 139)) w.heap.size:=
 ⟨by simp[go_sem],by simp[go_sem],by simp[go_sem],fun o=>by
  unfold World.frozen?;simp only[];rw[show(w.alloc (Obj.cells #[Value.bool false,Value.string ⟨#[]⟩,Value.int IntKind.i64 0] 139)).heap[w.heap.size]? =some _ from My w _]
  simp,by simp⟩
def Z3.on {W a:World} {b:Nat} (h:Z3 W b) (hb:Below W.heap.size W a):Z3 a b:=by obtain⟨f,e,d,c,hl⟩:=h;exact⟨(hb.cell (p:=⟨b,0,none⟩) hl).trans f,(hb.cell (p:=⟨b,1,none⟩) hl).trans e,(hb.cell (p:=⟨b,2,none⟩) hl).trans d,fun o=>(hb.frozen (p:=⟨b,o,none⟩) hl).trans (c o),eR hl hb.size⟩
def Fl.len2 {n:Nat} (hn:n<Na.B^2):(Na.cl n).length <=2:=Na.F1 _ _ hn
def Fl.yeS {n:Nat} (hn:n<Na.B^2):Na.big (Na.cl n)=false:=by have:=Fl.len2 hn;rw[Na.big,Na.PU];exact eL aG
def Fl.ysy (n k:Nat) (hn:n<Na.B^2) (b:k<=1200):Na.shl (Na.cl n) (k:Int)=(Na.cl (n*2^k),0):=by
 rw[Na.shl,bv aG,Fl.yeS hn,bv cn,Na.nK];by_cases a:n=0
 ·rw[bT a,a,qo,Na.rY]
 ·rw[bv a,bv,jJ];have:=Na.yeT (n:=n) (k:=64) hn;omega
def Fl.yuO (n:Nat) (hn:n<Na.B^2):Na.shr (Na.cl n) 1=(Na.cl (n / 2),decide (n % 2≠0),0):=by rw[Na.shr,bv aG,Fl.yeS hn,bv cn,Na.nK];rfl
def Fl.yw0 (k:Nat) (a:k<=1200):Na.pow 5 (k:Int)=(Na.cl (5^k),0):=by have h:=Na.F1 _ _ (wx (Fl.ycb 5 k bL a) (show Na.B^120<Na.B^121 from yal bL bL));rw[Na.pow,bv aG,bv aG,jJ,Na.fits,bv (by show ¬ 256<(Na.cl (5^k)).length;omega)];rfl
def Fl.ynl (m k:Nat) (hm:m<Na.B^2) (a:k<=1200):Na.mul (Na.cl m) (Na.cl (5^k))=(Na.cl (m*5^k),0):=by
 have h:=Na.F1 _ _ (wx (Fl.ycb 5 k bL a) (show Na.B^120<Na.B^121 from yal bL bL));have b:=Fl.yel m 5 k hm bL a;have hb:Na.big (Na.cl (5^k))=false:=by rw[Na.big,Na.PU];exact eL aG
 rw[Na.mul,Fl.yeS hm,hb,bv cn,Na.nK,Na.nK,Na.fits,bv aG]
def Fl.yhx (s:Bool) (v:Nat) (x:Int) (w:World) (hv:(Na.cl v).length <=1000) (hx: -9223372036854775808<=x/\x<=9223372036854775807):
 Calls prog 158 #[.bool s,.string ⟨(Lib.decDigits v).toArray⟩,.int .i64 x] w (RetB (.tuple #[Fl.dv (Dc.mk s (Lib.decDigits v) x),.int .i64 (Dc.mk s (Lib.decDigits v) x).e]) w):=by
 have a:=ylW (Na.cl v) (Na.zh v);rw[Na.nK] at a;exact yaN s ⟨(Lib.decDigits v).toArray⟩ x w (by rw[nm];omega) hx
def Fl.ylO (a:Option Addr) (c v:Nat) (w w0:World) (d:Sl w a c (Na.cl v)) (hv:(Na.cl v).length <=1000) (b:Tab w0) (hb:Below w0.heap.size w0 w):
 Calls prog 178 #[.slice a (Na.cl v).length c] w (RetB (.string ⟨(Lib.decDigits v).toArray⟩) w):=by
 have:=yvT a c (Na.cl v) w d aG (b.below hb);rwa[Na.nK] at this
def yp5 (s:Bool) (a:Option Addr) (c n k:Nat) (w:World) (h:Sl w a c (Na.cl n)) (hn:n<Na.B^2) (J:k<=1100) (C:Tab w):
 Calls prog 139 #[.bool s,.slice a (Na.cl n).length c,.int .i64 k] w (RetB (Fl.dv (Fl.of s n k)) w):=by
 have t:Fl.of s n k=Dc.mk s (Lib.decDigits (n*2^k)) 0:=by rw[Fl.of,bT aG,jJ]
 have L:=Fl.len2 hn;have hl:=Fl.yel n 2 k hn bL aG;have d:=fun wr (hb:Below w.heap.size w wr)=>ybC a c (Na.cl n) k wr (h.on hb) aG aG;rw[Fl.ysy n k hn aG] at d;rw[t];obtain⟨v,hv⟩:=bx (n*2^k);rw[<-hv] at d hl ⊢;have r:=aL (fun b g c1 (D:Sl b g c1 (Na.cl v)) (hb:Below w.heap.size w b)=>Fl.ylO g c1 v b w D aG C hb);have i:=aL (fun b=>Fl.yhx s v 0 b aG aG);have H:=aL d;obtain⟨S,j⟩:=bx (⟨(Lib.decDigits v).toArray⟩:ByteArray);obtain⟨R,l⟩:=bx (Dc.mk s (Lib.decDigits v) 0);rw[<-j] at r i;rw[<-l] at i ⊢;clear hv t j l d;go_enter func139,ntmps139
 go_wp2_with (first|(go_at_call 174;refine cV (H.out _ ?_) ?_;exact ek;rintro e b ⟨g,c1,rfl,A, -,m⟩;have F:=(Z3.new w).on m;have f:Below w.heap.size w b:=yY (ek) (m.mono cn))|(go_at_call 178;refine cp (r.out _ _ _ A f) ?_;intro I hb2;have G:=F.on hb2;have q:=f.trans (hb2.mono f.size))|(go_at_call 158;refine cp (i.out _) ?_;intro w3 o;have K:=q.trans (o.mono q.size);have E:=G.on o;obtain⟨y0,y1,y2,yf,yl⟩:=E;have u:=yf 0;have x:=yf 1;have y:=yf 2;have yn: ¬ w.heap.size=w3.heap.size:=aG;have z: ¬ w3.heap.size=w.heap.size:=aG))
 refine eB (v:=Fl.dv R) (by simp[results,results139,go_sem,y0,y1,y2,u,x,y,yn,z,yl];done) rfl (RetB.of rfl dt)
def yvi (n k:Nat) (w:World) (nv ev:Value) (wr:World):Prop:= ∃ (m j:Nat) (z:Int) (a:Option Addr) (c:Nat),nv= .slice a (Na.cl m).length c/\ev= .int .i64 z/\Hid (z= -(j:Int))/\j<=k/\m<Na.B^2/\Hid (Fl.ov k n=Fl.ov j m)/\Hid (Sl wr a c (Na.cl m))/\Hid (Z3 wr w.heap.size)/\Hid (Below w.heap.size w wr)
def Na.yjl {m:Nat} (h:m≠0): ∃ a:0<(Na.cl m).length,(Na.cl m)[0]=m % 4294967296:=by
 have e:Na.cl m=(m % Na.B)::Na.cl (m / Na.B):=by rw[Na.cl,EF h]
 have a:0<(Na.cl m).length :=by rw[e];simp
 refine⟨a,?_⟩;simp only[e,ydO];first|done|rfl
def Fl.yiu (x:Nat) (hx:x<4294967296):Go.bits BinOp.and IntKind.u32 (x:Int) 1=((x % 2:Nat):Int):=by have:=Na.Rk x 1 hx bL;rw[show(2^1-1:Nat)=1 from rfl] at this;exact this
def ymn (s:Bool) (a:Option Addr) (c n k:Nat) (w:World) (h:Sl w a c (Na.cl n)) (hn:n<Na.B^2) (ij:0<k) (hk:k<=1100) (I:Tab w):
 Calls prog 139 #[.bool s,.slice a (Na.cl n).length c,.int .i64 (-(k:Int))] w (RetB (Fl.dv (Fl.of s n (-(k:Int)))) w):=by
 have u:=aL (show Fl.of s n (-(k:Int))=Dc.mk s (Lib.decDigits ((Fl.ov k n).1 *5^(Fl.ov k n).2)) (-((Fl.ov k n).2 :Int)) by rw[Fl.of,bv aG,Int.neg_neg,jJ])
 obtain⟨H,HT⟩:=dY h I;have BD:=Fl.len2 hn;obtain⟨z0,d⟩: ∃ z:Int,z= -(k:Int):=⟨_,rfl⟩;have np: ¬ 0<=z0:=aG;have O:=aL d;rw[<-d];rw[<-d] at u;clear h I d;go_enter func139,ntmps139
 go_wp2_with fail
 go_loopw [1,2] (yvi n k w) (fun _ e _=>(-(intOf e)).toNat)
 case atStart=>exact⟨n,k,z0,a,c,rfl,rfl,O,cm,hn,aL rfl,aL (H.out.on (ek)),aL (Z3.new w),aL (ek)⟩
 case round=>
  clear H BD O;obtain⟨m,j,z,a,c,rfl,rfl,P,hj,hm,E,nZ,Lq,bF⟩:=hrel;have su:=Fl.len2 hm;have hz:=P.out;by_cases G:0<j/\m≠0/\m % 2=0
  ·obtain⟨X,C,K⟩:=G;obtain⟨j,rfl⟩: ∃ t,j=t+1:=⟨j-1,by omega⟩;obtain⟨i,f⟩:=Na.yjl C;obtain⟨b,o,rfl,hb,l⟩:=nZ.out.plain i;have c0:=l 0 i;rw[f,ms] at c0;have q:=Fl.yiu (m % 4294967296) (kk _ bL);rw[show m % 4294967296 % 2=0 by omega] at q;obtain⟨x,hx⟩:=bx (m % 4294967296);rw[<-hx] at c0 q;have Y:x<4294967296:=by rw[hx];exact kk _ bL
   have N:z<0:=aG;have cH:z+1<=0:=aG;have eK: -1200<=z:=aG;have D:=yhG (some ⟨b,o,none⟩) c (Na.cl m) 1 wr nZ.out aG aG;rw[Fl.yuO m hm] at D;have Z:=aL D;have Qn:=aL (E.out.trans (Fl.yee C K));have Ue:=aL (show z+1= -(j:Int) by omega);clear D l hx f C K hz X;go_wp2_with (first|(go_at_call 175;refine cV Z.out ?_;rintro e w1 ⟨a1,c1,rfl,s1, -,aw⟩;have bd:=bF.out.trans (aw.mono bF.out.size)))
   go_roundw
   case rel=>exact⟨m / 2,j,z+1,a1,c1,rfl,rfl,Ue,by omega,by omega,Qn,aL s1,aL (Lq.out.on aw),aL bd⟩
   case measure=>simp[intOf];omega
  ·have M:Fl.ov k n=(m,j):=by
    rw[E.out]
    cases j with
    |zero=>rfl
    |succ j=>exact Fl.yeW aG
   have r:=u.out;rw[M] at r;have L: -1200<=z/\z<=0:=aG;obtain⟨L,uj⟩:=L;have W: -z=(j:Int):=aG;obtain⟨v,hv⟩:=bx (m*5^j);have hl:=Fl.yel m 5 j hm bL aG;have Q:=Na.F1 _ _ (wx (Fl.ycb 5 j bL aG) (show Na.B^120<Na.B^121 from yal bL bL))
   have HP:=aL (fun w1=>(by
    have:=L5 5 (j:Int) w1 aG aG;rw[Fl.yw0 j aG] at this
    exact this:Calls prog 176 #[.int .i64 5,.int .i64 (j:Int)] w1 (ln (Na.cl (5^j),0) w1)))
   have HM:=aL (fun w1 a1 c1 (y:Sl w1 a c (Na.cl m)) (U:Sl w1 a1 c1 (Na.cl (5^j)))=>(by
    have:=ycx a c (Na.cl m) a1 c1 (Na.cl (5^j)) w1 y U aG aG;rw[Fl.ynl m j hm aG,<-hv] at this
    exact this:Calls prog 177 #[.slice a (Na.cl m).length c,.slice a1 (Na.cl (5^j)).length c1] w1 (ln (Na.cl v,0) w1)))
   rw[<-hv] at hl r;have F: -(j:Int)=z:=aG;have HD:=aL (fun w1 a1 c1 (y:Sl w1 a1 c1 (Na.cl v)) (hb:Below w.heap.size w w1)=>Fl.ylO a1 c1 v w1 w y aG HT.out hb);have JH:=aL (fun w1=>Fl.yhx s v z w1 aG aG);obtain⟨S,J⟩:=bx (⟨(Lib.decDigits v).toArray⟩:ByteArray);obtain⟨R,A⟩:=bx (Dc.mk s (Lib.decDigits v) z);rw[<-J] at HD JH;rw[<-A] at JH;have HR:=aL (show Fl.of s n z0=R by rw[r,A];show Dc.mk _ _ (-(j:Int))=_;rw[F]);have eV:z=0∨(z<0/\m=0)∨(z<0/\m≠0/\m % 2=1):=aG;clear hv J A r M hz P E u F G Q;rcases eV with d|⟨N,g⟩|⟨N,g,V⟩
   ·have VM: ¬ z<0:=aG;clear d;exact yfA
   ·have T:(Na.cl m).length =0:=by rw[g,Na.rY];rfl
    rw[T] at HM;clear g;exact yfA
   ·obtain⟨i,f⟩:=Na.yjl g;obtain⟨b,o,rfl,hb,l⟩:=nZ.out.plain i;have c0:=l 0 i;rw[f,ms] at c0;have q:=Fl.yiu (m % 4294967296) (kk _ bL);rw[show m % 4294967296 % 2=1 by omega] at q;obtain⟨x,hx⟩:=bx (m % 4294967296);rw[<-hx] at c0 q;have Y:x<4294967296:=by rw[hx];exact kk _ bL
    clear l hx f g V;exact yfA
def ymz (s:Bool) (a:Option Addr) (c n:Nat) (e:Int) (w:World) (h:Sl w a c (Na.cl n)) (hn:n<Na.B^2) (d: -1100<=e/\e<=1100) (b:Tab w):
 Calls prog 139 #[.bool s,.slice a (Na.cl n).length c,.int .i64 e] w (RetB (Fl.dv (Fl.of s n e)) w):=by
 by_cases f:0<=e
 ·obtain⟨k,rfl⟩: ∃ k:Nat,e=k:=⟨e.toNat,by omega⟩;exact yp5 s a c n k w h hn aG b
 ·obtain⟨k,rfl⟩: ∃ k:Nat,e= -(k:Int):=⟨(-e).toNat,by omega⟩;exact ymn s a c n k w h hn aG aG b
end







section
attribute [local go_sem] Fl.dv
end

def ylp (n:Bool) (a rest:ByteArray) (way:Int) (w:World) (s:a.size<=1000000000) (k:0<=way/\way<=5):
 Calls prog 180 #[.bool n,.string a,.string rest,.int .i64 way] w (Ret0 (.bool (Dc.up n a.data.toList rest.data.toList way)) w):=by
 obtain⟨r,b⟩:=bx (Dc.up n a.data.toList rest.data.toList way);rw[<-b];by_cases f:rest.size=0
 ·have l:=pB f;have hz:rest.data.toList=[]:=sV.1 (by simpa using f);rw[Dc.up,bT hz] at b;have c:=aL b;clear b f hz;go_enter func180,ntmps180
  go_wp2
  go_ret
  exact Ret0.of (dZ _ c.out.symm)
 ·have l:=oj (by omega:0<rest.size);have hz:rest.data.toList≠[]:=fun e=>f (by have:=dZ List.length e;simpa using this);rw[Dc.up,bv hz] at b;obtain⟨h,g⟩:=bx (Dc.half rest.data.toList);rw[<-g] at b;have j: ∀ w,Calls prog 223 #[.string rest,.string ⟨#[53]⟩] w (Ret0 (.int .i64 h) w):=fun w=>(strings_Compare rest ⟨#[53]⟩ w).mono fun _ _ e=>⟨by rw[e.1,g];rfl,e.2.symm⟩;have i:=aL j;clear j g f hz;have m:way=0∨way=1∨way=2∨way=3∨way=4∨way=5:=aG;clear k;rcases m with rfl|rfl|rfl|rfl|rfl|rfl
  case inl=>
   have c:=aL b;clear b;by_cases d:a.size=0
   ·have o:=pB d;have q:=aL d;clear d;go_enter func180,ntmps180
    go_wp2_with (go_at_call 223;refine cY (i.out _) ?_)
    all_goals go_ret
    all_goals refine Ret0.of (dZ _ (c.out.trans ?_).symm)
    all_goals rw[bT trivial,Dc.yqH (by simpa using q.out)]
    all_goals simp[*]
   ·have o:=oj (by omega:0<a.size);replace d:0<a.size:=aG;go_enter func180,ntmps180
    go_wp2_with (go_at_call 223;refine cY (i.out _) ?_)
    all_goals go_ret
    all_goals refine Ret0.of (dZ _ (c.out.trans ?_).symm)
    all_goals rw[bT trivial,Dc.ypW a d]
    all_goals simp[*,Dc.yvb]
    all_goals(rw[vs];simp)
  all_goals(
   have c:=aL b;clear b
   go_enter func180,ntmps180
   go_wp2_with (go_at_call 223;refine cY (i.out _) ?_)
   go_ret
   exact Ret0.of (dZ _ (c.out.trans (by first|rfl|(cases n<;>rfl))).symm))
def ywc (s:ByteArray) (w:World) (a:s.size<=1000000000):Calls prog 209 #[.string s,.string ⟨#[57]⟩] w (Ret0 (.string ⟨(Dc.no9 s.data.toList).toArray⟩) w):=
 (strings_TrimRight_one s 57 bL w aG).mono fun _ _ h=>⟨h.1,h.2.symm⟩
def rep0 (k:Nat) (w:World) (a:k<=1000000000):Calls prog 114 #[.string ⟨#[48]⟩,.int .i64 k] w (RetB (.string ⟨(Lib.repeatL [48] k).toArray⟩) w):=
 (strings_Repeat ⟨#[48]⟩ k w aG (by simp[ByteArray.size];omega)).mono fun _ _ h=>h
def yjm (s:ByteArray) (w:World) (q:s.size<=1000000000) (hd:Dc.dD s.data.toList=true):
 Calls prog 181 #[.string s] w (RetB (.string ⟨(Dc.more s.data.toList).toArray⟩) w):=by
 obtain⟨T,Z,f,hZ,E,i⟩:=Dc.ysx s hd;have l: ∀ w,Calls prog 209 #[.string s,.string ⟨#[57]⟩] w (Ret0 (.string T) w):=fun w=>by rw[f];exact ywc s w q
 have d: ∀ w,Calls prog 114 #[.string ⟨#[48]⟩,.int .i64 ((s.size:Int)-T.size)] w (RetB (.string Z) w):=fun w=>by rw[hZ,show(s.size:Int)-T.size=((s.size-T.size:Nat):Int) by omega];exact rep0 _ w aG
 have z:Z.size<=1000000000:=ycn;obtain⟨r,e⟩:=bx (Dc.more s.data.toList);rw[<-e] at i ⊢;obtain⟨n,m⟩:=dY d l;clear e d f hZ l hd;rcases i with ⟨g,a⟩|⟨c,o,j,u,v,a⟩
 ·have x:T.toList.isEmpty=true:=pB g;have b:=aL a;clear a g;go_enter func181,ntmps181
  go_wp2_with (first|(go_at_call 209;refine cY (m.out _) ?_)|(go_at_call 114;refine cp (n.out _) ?_;refine wv ?_;intro w1 ab ao ay az af))
  go_ret
  exact RetB.of (dZ _ b.out) ao
 ·have x:T.toList.isEmpty=false:=oj o;have b:=aL a;clear a;have hi:((T[T.size-1].toNat :Int))=c.toNat:=by rw[j]
  clear j;have D:IntKind.i64.wrap ((T.size:Int)-1)=(T.size:Int)-1:=P7 _ aG;have J:IntKind.u8.wrap ((c.toNat:Int)+1)=(c.toNat:Int)+1:=IntWalk.u8_in _ aG;have hn:((T.size:Int)-1).toNat =T.size-1:=aG;have y:0<=(T.size:Int)-1:=aG;have G:(T.size:Int)-1<T.size:=aG;have C:(T.size:Int)-1<=T.size:=aG;have I:1<=(T.size:Int):=aG;have B:=Dc.yuB c u v;have A: ¬ 9223372036854775807<T.size-1+1:=aG;have F: ¬ 9223372036854775807<T.size-1+1+Z.size:=aG;have t:T.size-1<T.size:=aG;have H:T.size-1<=T.size:=aG;go_enter func181,ntmps181
  go_wp2_with (first|(go_at_call 209;refine cY (m.out _) ?_)|(go_at_call 114;refine cp (n.out _) ?_;refine wv ?_;intro w1 ab ao ay az af))
  go_quiet (fail)
  go_wp2
  go_ret
  exact RetB.of (dZ _ b.out) dt

section
attribute [local go_sem] Dc.Res.val
end

section
attribute [local go_sem] Dc.Res.val
end

def yw6 (L:Nat) (e:Int) (w:World) (b:L<=1000000) (a: -1000000<=e/\e<=1000000):Calls prog 285 #[.int .i64 L,.int .i64 e] w (Ret0 (.int .i64 (max (e+(L:Int)-53) (-1074))) w):=by
 obtain⟨d,c⟩:=a;go_enter func285,ntmps285
 exact yj
def Fl.pk (m:Nat) (u:Int):Nat:=if m<4503599627370496 then m else if m=9007199254740992 then(if 2047<=u+1076 then 9218868437227405312 else(u+1076).toNat *4503599627370496) else(if 2047<=u+1075 then 9218868437227405312 else(u+1075).toNat *4503599627370496+m-4503599627370496)
def Fl.sgn (neg:Bool):Nat:=if neg then 9223372036854775808 else 0
def Fl.ywS {m:Nat} {u:Int} (hm:m<=9007199254740992):Fl.pk m u<9223372036854775808:=by
 unfold Fl.pk;split
 ·omega
 ·split
  ·split<;>omega
  ·split<;>omega
def Fl.ylX (D:Nat) (h:D<9223372036854775808):Go.bits BinOp.or IntKind.u64 (D:Int) 9223372036854775808=((9223372036854775808+D:Nat):Int):=by rw[show(9223372036854775808:Int)=((9223372036854775808:Nat):Int) by rfl,Il _ _ aG aG];congr 1;have:=Yj (show D<2^63 by omega) 1;rw[oU,Nat.or_comm] at this;exact this.symm
def yjU (neg:Bool) (m:Nat) (u:Int) (w:World) (hm:m<=9007199254740992) (f: -1074<=u/\u<=100000):
 Calls prog 286 #[.bool neg,.int .u64 m,.int .i64 u] w (Ret0 (.int .u64 ((Fl.sgn neg+Fl.pk m u:Nat):Int)) w):=by
 have c:=Fl.ywS (u:=u) hm;have i:=Fl.ylX (Fl.pk m u) c;obtain⟨D,a⟩:=bx (Fl.pk m u);rw[<-a] at c i ⊢;obtain⟨l,u2⟩:=f;rw[Fl.pk] at a;by_cases c1:m<4503599627370496
 ·rw[bT c1] at a;subst a;have e:((D:Int)==9007199254740992)=false:=nY;exact Xs
 ·rw[bv c1] at a;by_cases c2:m=9007199254740992
  ·rw[bT c2] at a;subst c2;by_cases c3:2047<=u+1076
   ·rw[bT c3] at a;subst a;have c4:2047<=u+1+1075:=aG;exact Xs
   ·rw[bv c3] at a;have c4: ¬ 2047<=u+1+1075:=aG;obtain⟨z,hz⟩: ∃ z:Nat,u+1+1075-1=(z:Int):=⟨(u+1075).toNat,by omega⟩;have d:z<2046:=aG;obtain⟨Z,b⟩:=bx (z*4503599627370496);have j:(z:Int)*4503599627370496=(Z:Int):=aG;have k:Z<=9209861237972664320:=aG;have g:(4503599627370496:Int)+(Z:Int)=(D:Int):=aG;clear a b;exact Xs
  ·rw[bv c2] at a;have e:((m:Int)==9007199254740992)=false:=nY;by_cases c3:2047<=u+1075
   ·rw[bT c3] at a;subst a;exact Xs
   ·rw[bv c3] at a;obtain⟨z,hz⟩: ∃ z:Nat,u+1075-1=(z:Int):=⟨(u+1074).toNat,by omega⟩;have d:z<2046:=aG;obtain⟨Z,b⟩:=bx (z*4503599627370496);have j:(z:Int)*4503599627370496=(Z:Int):=aG;have k:Z<=9209861237972664320:=aG;have g:(m:Int)+(Z:Int)=(D:Int):=aG;clear a b;exact Xs
def yxc (neg:Bool) (e:Int) (w:World) (b: -9000000000000000000<=e/\e<=9000000000000000000):
 Calls prog 284 #[.bool neg,.int .i64 0,.int .i64 e] w (Ret0 (.tuple #[.int .u64 ((Fl.sgn neg:Nat):Int),.bool true]) w):=by
 have H:=aL (fun a=>(show Calls prog 286 #[.bool neg,.int .u64 0,.int .i64 0] a (Ret0 (.int .u64 ((Fl.sgn neg:Nat):Int)) a) from yjU neg 0 0 a aG aG));obtain⟨d,c⟩:=b;go_enter func284,ntmps284
 go_wp2_with (go_at_call 286;refine cY (H.out _) ?_)
 refine eB (v:= .tuple #[.int .u64 ((Fl.sgn neg:Nat):Int),.bool true]) (by simp[results,results284,go_sem]) rfl (Ret0.of rfl)
def ytG (neg:Bool) (L:Nat) (e:Int) (w:World) (b:0<L/\L<=1000000) (a: -10000<=e/\e<=2000):
 Calls prog 284 #[.bool neg,.int .i64 L,.int .i64 e] w (Ret0 (.tuple #[.int .u64 0,.bool false]) w):=by
 obtain⟨g,f⟩:=a;obtain⟨d,c⟩:=b;have k:((L:Int)==0)=false:=nY;have j:decide (e < -10000)=false:=eL aG;have i:decide (2000<e)=false:=eL aG;go_enter func284,ntmps284
 go_wp2
 refine eB (v:= .tuple #[.int .u64 0,.bool false]) (by simp[results,results284,go_sem]) rfl (Ret0.of rfl)

section
attribute [local go_sem high] ywz yp3 ypA
def ywJ (N n:Nat) (w:World) (nv lv:Value) (wr:World):Prop:= ∃ (k j h m l:Nat) (b:Bool),nv= .int .i64 j/\lv= .bool b/\j<=n/\Hid (j+64*k=n)/\h<18446744073709551616/\m<18446744073709551616/\l<18446744073709551616/\
 Hid (Fl.w3 h m l=N / 2^(64*k))/\Hid (b=decide (N % 2^(64*k)≠0))/\Hid (C3 wr w.heap.size h m l)/\Hid (C3 wr (w.heap.size+1) 0 0 0)/\Hid (Below w.heap.size w wr)
def Fl.yr4 {N k h m l:Nat} (hl:l<18446744073709551616) (e:Fl.w3 h m l=N / 2^(64*k)):Fl.w3 0 h m=N / 2^(64*(k+1))/\(N % 2^(64*(k+1))≠0↔N % 2^(64*k)≠0∨l≠0):=by
 obtain⟨o,n⟩:=Fl.ypG h m l hl;have q:(18446744073709551616:Nat)=2^64:=bL;have f:0<2^(64*k):=fp bL;have d:2^(64*(k+1))=2^(64*k)*18446744073709551616:=by rw[lW,lR,oU,<-q]
 constructor
 ·rw[<-o,e,d,ycj]
 ·have i:=Nat.mod_mul (x:=N) (a:=2^(64*k)) (b:=18446744073709551616);rw[d,i,<-e,n];constructor
  ·intro j;by_cases c:N % 2^(64*k)=0
   ·right;intro g;apply j;rw[c,g,sr]
   ·exact Or.inl c
  ·rintro (c|c)
   ·omega
   ·have:=xG f (zm c);omega
def Fl.drop_zero {N k n:Nat} (h:N / 2^k=0) (d:k<=n):N / 2^n=0/\N % 2^n=N % 2^k:=by
 have c:0<2^k:=fp bL
 have b:N<2^k:=by
  rcases qt N (2^k) with a|a
  ·exact a
  ·have:=(zj c).2 (show 1*2^k<=N by omega);omega
 have a:N<2^n:=eR b (hJ bL d);exact⟨t6 a,by rw[o0 a,o0 b]⟩
def Fl.ypn {N k n j h m l:Nat} (hj:j<64) (hn:j+64*k=n) (hl:l<18446744073709551616) (hm:m<18446744073709551616) (g:h<18446744073709551616) (e:Fl.w3 h m l=N / 2^(64*k)):
 Fl.w3 (h / 2^j) (h*2^(64-j) % 18446744073709551616+m / 2^j) (m*2^(64-j) % 18446744073709551616+l / 2^j)=N / 2^n/\(N % 2^n≠0↔N % 2^(64*k)≠0∨l % 2^j≠0):=by
 obtain⟨s,r⟩:=Fl.yne (show j+(64-j)=64 by omega) hl hm g;have f:0<2^(64*k):=fp bL;have d:2^n=2^(64*k)*2^j:=by rw[<-hn,lR,fM]
 constructor
 ·rw[<-s,e,d,ycj]
 ·have o:=Nat.mod_mul (x:=N) (a:=2^(64*k)) (b:=2^j);rw[d,o,<-e,r];constructor
  ·intro q;by_cases c:N % 2^(64*k)=0
   ·right;intro i;apply q;rw[c,i,sr]
   ·exact Or.inl c
  ·rintro (c|c)
   ·omega
   ·have:=xG f (zm c);omega
def yss (h m l n:Nat) (w:World) (g:h<18446744073709551616) (hm:m<18446744073709551616) (hl:l<18446744073709551616) (hn:n<=1000000):
 Calls prog 287 #[.agg #[.int .u64 h,.int .u64 m,.int .u64 l],.int .i64 n] w (fun e w'=> ∃ h' u A:Nat,e= .returned (.tuple #[.agg #[.int .u64 h',.int .u64 u,.int .u64 A],.bool (decide (Fl.w3 h m l % 2^n≠0))])/\
  h'<18446744073709551616/\u<18446744073709551616/\A<18446744073709551616/\Fl.w3 h' u A=Fl.w3 h m l / 2^n/\Below w.heap.size w w'):=by
 obtain⟨N,C⟩:=bx (Fl.w3 h m l);rw[<-C];obtain⟨z,hz⟩:=bx (decide (N % 2^n≠0));rw[<-hz];obtain⟨HN,HZ⟩:=dY C hz;clear C hz;have L:Hid (C3 ((w.alloc (.cells #[.int .u64 h,.int .u64 m,.int .u64 l] 284)).alloc (.cells #[.int .u64 0,.int .u64 0,.int .u64 0] 284)) w.heap.size h m l):=aL ((C3.new w h m l).alloc _);have K:Hid (C3 ((w.alloc (.cells #[.int .u64 h,.int .u64 m,.int .u64 l] 284)).alloc (.cells #[.int .u64 0,.int .u64 0,.int .u64 0] 284)) (w.heap.size+1) 0 0 0):=aL (C3.new0 cn);have et:Hid (Below w.heap.size w ((w.alloc (.cells #[.int .u64 h,.int .u64 m,.int .u64 l] 284)).alloc (.cells #[.int .u64 0,.int .u64 0,.int .u64 0] 284))):=aL (((oA w.heap.size w).alloc cm _).alloc cn _);go_enter func287,ntmps287
 go_wp2_with fail
 go_loopw [1,6] (ywJ N n w) (fun nv _ _=>(intOf nv).toNat)
 case atStart=>exact⟨0,n,h,m,l,false,rfl,rfl,cm,aL aG,g,hm,hl,aL (by rw[HN.out];simp),aL (by simp[Nat.mod_one]),L,K,et⟩
 case round=>
  clear L et K g hm hl;obtain⟨k,j,h,m,l,b,rfl,rfl,hj,J,g,hm,hl,H,I,d,HR,bF⟩:=hrel;have c0:=d.out.1.get 0 rfl;have c1:=d.out.1.get 1 rfl;have c2:=d.out.1.get 2 rfl;have bQ:=d.out.1.1;have f0:=d.out.2 0;have f1:=d.out.2 1;have f2:=d.out.2 2;have r0:=HR.out.1.get 0 rfl;have r1:=HR.out.1.get 1 rfl;have r2:=HR.out.1.get 2 rfl;have q0:=HR.out.2 0;have q1:=HR.out.2 1;have q2:=HR.out.2 2;have qP:=HR.out.1.1;by_cases hz:h=0/\m=0/\l=0
  · -- nothing is left
   obtain⟨rfl,rfl,rfl⟩:=hz;have Ka:w3Eq 0 0 0 0 0 0=true:=rfl;have ge:N / 2^(64*k)=0:=by rw[<-H.out];rfl
   have i:=J.out;obtain⟨a,c⟩:=Fl.drop_zero ge (show 64*k<=n by omega);have HE:=aL a;have Fa:=aL (show b=z by rw[I.out,HZ.out];apply sd.2;rw[c]);clear ge i a c;by_cases uH:64<=j
   ·go_wp2_with fail
    exact ylb
   ·go_wp2_with fail
    exact ylb
  ·have Ka:w3Eq (h:Int) (m:Int) (l:Int) 0 0 0=false:=by
    simp only[w3Eq,Bool.and_eq_false_iff,gN,tq];omega
   by_cases uH:64<=j
   ·obtain⟨f,Nt⟩: ∃ f,j=f+64:=⟨j-64,by omega⟩;subst Nt;have Sd:((f+64:Nat):Int)-64=(f:Int):=aG;obtain⟨a,c⟩:=Fl.yr4 hl H.out;have i:=J.out;have Qm:=aL (show f+64*(k+1)=n by omega);have T:=aL a;have Ag:=aL (d.out.stored 0 h m);have S:=aL (mX (B:=w.heap.size) (b:=w.heap.size) cm [.int .u64 ((0:Nat):Int),.int .u64 h,.int .u64 m] 0 bF.out);have vD:decide ((0:Int)<(l:Int))=decide (l≠0):=by apply sd.2;omega
    have s:=aL (show(b || decide (l≠0))=decide (N % 2^(64*(k+1))≠0) by rw[I.out,<-Bool.decide_or];apply sd.2;exact c.symm)
    clear a c i;have R:Hid (C3 (wr.setCells w.heap.size 0 [.int .u64 ((0:Nat):Int),.int .u64 h,.int .u64 m]) (w.heap.size+1) 0 0 0):=aL (((HR.out.setOther aG).setOther aG).setOther aG)
    cases b with
    |true=>
     go_wp2_with fail
     go_roundw
     case rel=>exact⟨k+1,f,0,h,m,true,by go_num,rfl,by omega,Qm,by decide,g,hm,T,s,Ag,R,S⟩
     case measure=>simp[intOf];omega
    |false=>
     have pi:=aL (show decide (0<l)=decide (N % 2^(64*(k+1))≠0) by rw[<-s.out,Sc];apply sd.2;omega)
     go_wp2_with fail
     go_roundw
     case rel=>exact⟨k+1,f,0,h,m,decide (0<l),by go_num,rfl,by omega,Qm,by decide,g,hm,T,pi,Ag,R,S⟩
     case measure=>simp[intOf];omega
   · -- the last step
    have i:=J.out;obtain⟨a,c⟩:=Fl.ypn aG i hl hm g H.out;obtain⟨t,W⟩: ∃ t:Nat,j+t=64:=⟨64-j,by omega⟩;have hti:(64:Int)-(j:Int)=(t:Int):=aG;rw[show 64-j=t by omega] at a;obtain⟨a1,a2,q, -⟩:=Fl.ybP (x:=l) (y:=m) W hl;obtain⟨b1,b2,o, -⟩:=Fl.ybP (x:=m) (y:=h) W hm;have F:=Fl.ygO a1 a2 q;have G:=Fl.ygO b1 b2 o
    have Hn:IntKind.u64.wrap ((1:Int)*2^j)-1=((2^j-1:Nat):Int):=by have e:((1:Int)*2^j)=((2^j:Nat):Int):=cn;have OU:2^j<=2^63:=hJ bL aG;have hp:0<2^j:=fp bL;rw[e,zA];omega
    have Bq:IntKind.u64.wrap (IntKind.u64.wrap ((2:Int)^j)-1)=((2^j-1:Nat):Int):=by have e:((2:Int)^j)=((2^j:Nat):Int):=cn;have OU:2^j<=2^63:=hJ bL aG;have hp:0<2^j:=fp bL;rw[e,zA,zA];omega
    have fE:=Fl.yus hl (show j<64 by omega);have sh:=Fl.ya9 h j;have sm:=Fl.ya9 m j;have sl:=Fl.ya9 l j;have uh:=Fl.yby h t;have um:=Fl.yby m t;obtain⟨h',E⟩: ∃ x,x=h / 2^j:=⟨_,rfl⟩;obtain⟨m1,U⟩: ∃ x,x=m / 2^j:=⟨_,rfl⟩;obtain⟨l1,eA⟩: ∃ x,x=l / 2^j:=⟨_,rfl⟩;obtain⟨h2,Si⟩: ∃ x,x=h*2^t % 18446744073709551616:=⟨_,rfl⟩;obtain⟨m2,O⟩: ∃ x,x=m*2^t % 18446744073709551616:=⟨_,rfl⟩;obtain⟨M,hM⟩: ∃ x:Nat,x=2^j-1:=⟨_,rfl⟩;obtain⟨r,X⟩: ∃ x,x=l % 2^j:=⟨_,rfl⟩;rw[<-E] at sh a;rw[<-U] at sm G a o;rw[<-eA] at sl F a q;rw[<-Si] at uh G a o;rw[<-O] at um F a q;rw[<-hM] at Hn Bq fE;rw[<-X] at fE c;obtain⟨P,hP⟩: ∃ x,x=h2+m1:=⟨_,rfl⟩;obtain⟨Q,Z⟩: ∃ x,x=m2+l1:=⟨_,rfl⟩;rw[<-hP] at G a o;rw[<-Z] at F a q;have Hy:h'<18446744073709551616:=by rw[E];exact wx (N4 _ _) g
    have jf:decide ((0:Int)<(r:Int))=decide (r≠0):=by apply sd.2;omega
    have HD:=aL a
    have s:=aL (show z=(b || decide (r≠0)) by rw[HZ.out,I.out,<-Bool.decide_or];apply sd.2;exact c)
    have Yc: ¬ (64:Int)<=(j:Int):=aG;clear a c i a1 a2 b1 b2 E U eA Si O hM X hP Z;have i0:(0:Int)<=(j:Int):=aG;have i1:(0:Int)<=(t:Int):=aG
    cases b with
    |true=>
     go_wp2_with fail
     go_quiet (fail)
     go_wp2
     go_region
     go_wp2
     obtain⟨V,hV⟩:=bx (wr.drewN (nq+1))
     rw[<-hV]
     have D:C3 V (w.heap.size+1) 0 0 0:=by rw[hV];exact HR.out.on (oY eN _)
     have Fa:Below w.heap.size w V:=by rw[hV];exact oY bF.out _
     clear hV
     obtain⟨Y,hY⟩:=bx (V.setCells (w.heap.size+1) 0 [.int .u64 h',.int .u64 P,.int .u64 Q])
     change bodyPost _ _ _ _ _ (V.setCells (w.heap.size+1) 0 [.int .u64 h',.int .u64 P,.int .u64 Q])
     have HS:=D.stored h' P Q
     have HX:=mX (b:=w.heap.size+1) (ls w.heap.size) [.int .u64 h',.int .u64 P,.int .u64 Q] 0 Fa
     rw[<-hY] at HS HX ⊢
     have y0:=HS.1.get 0 rfl
     have y1:=HS.1.get 1 rfl
     have y2:=HS.1.get 2 rfl
     clear hY
     refine eB (v:= .tuple #[.agg #[.int .u64 h',.int .u64 P,.int .u64 Q],.bool true]) ydF rfl ?_
     exact⟨h',P,Q,by rw[s.out];rfl,Hy,o,q,HD.out,HX⟩
    |false=>
     go_wp2_with fail
     go_quiet (fail)
     go_wp2
     go_region
     go_wp2
     obtain⟨V,hV⟩:=bx (wr.drewN (nq+1))
     rw[<-hV]
     have D:C3 V (w.heap.size+1) 0 0 0:=by rw[hV];exact HR.out.on (oY eN _)
     have Fa:Below w.heap.size w V:=by rw[hV];exact oY bF.out _
     clear hV
     obtain⟨Y,hY⟩:=bx (V.setCells (w.heap.size+1) 0 [.int .u64 h',.int .u64 P,.int .u64 Q])
     change bodyPost _ _ _ _ _ (V.setCells (w.heap.size+1) 0 [.int .u64 h',.int .u64 P,.int .u64 Q])
     have HS:=D.stored h' P Q
     have HX:=mX (b:=w.heap.size+1) (ls w.heap.size) [.int .u64 h',.int .u64 P,.int .u64 Q] 0 Fa
     rw[<-hY] at HS HX ⊢
     have y0:=HS.1.get 0 rfl
     have y1:=HS.1.get 1 rfl
     have y2:=HS.1.get 2 rfl
     clear hY
     refine eB (v:= .tuple #[.agg #[.int .u64 h',.int .u64 P,.int .u64 Q],.bool (decide ((0:Int)<(r:Int)))]) ydF rfl ?_
     exact⟨h',P,Q,by rw[s.out];rw[jf];rfl,Hy,o,q,HD.out,HX⟩
def ytB (hi lo n:Nat) (w:World) (A:hi<18446744073709551616) (hl:lo<18446744073709551616) (hn:n<=1000000):
 Calls prog 275 #[.agg #[.int .u64 hi,.int .u64 lo],.int .i64 n] w (RetB (.tuple #[.agg #[.int .u64 (((hi*18446744073709551616+lo) / 2^n / 18446744073709551616:Nat):Int),.int .u64 (((hi*18446744073709551616+lo) / 2^n % 18446744073709551616:Nat):Int)],.bool (decide ((hi*18446744073709551616+lo) % 2^n≠0))]) w):=by
 have hd:=fun d=>yss 0 hi lo n d aG A hl hn;have f:Hid (C2 ((w.alloc (.cells #[.int .u64 hi,.int .u64 lo] 95)).alloc (.cells #[.int .u64 0,.int .u64 0] 95)) (w.heap.size+1) 0 0):=aL (C2.new0 cn);have s:Fl.w3 0 hi lo=hi*18446744073709551616+lo:=by unfold Fl.w3;omega
 rw[s] at hd;simp only[show((0:Nat):Int)=(0:Int) from rfl] at hd;obtain⟨N,t⟩:=bx (hi*18446744073709551616+lo);have M:N<340282366920938463463374607431768211456:=aG;rw[<-t] at hd ⊢;have L:=aL hd;have hq:N / 2^n<=N:=N4 _ _;obtain⟨q,r⟩:=bx (N / 2^n);rw[<-r] at hq ⊢;obtain⟨z,hz⟩:=bx (decide (N % 2^n≠0));rw[<-hz];obtain⟨K,J⟩:=dY r hz;have H:=aL (fun(h m l:Nat) d=>ygW h m l d);clear hd r hz s t;go_enter func275,ntmps275
 go_wp2_with (first|(go_at_call 287;refine cV (L.out _) ?_;rintro e d ⟨h',a,c,rfl,X,W,b2,hv,g⟩;have Z:Below w.heap.size w d:=yY dt (g.mono mY);obtain⟨u,F⟩:=VO g;have G:=g.size;(try simp only[fO,gz,fY,gt] at G);have U:=fun o=>(F (w.heap.size+1) o cn).trans ((f.out.2 o));have Kj:=(u (w.heap.size+1) 0 cn).trans (f.out.1.get 0 rfl);have Ki:=(u (w.heap.size+1) 1 cn).trans (f.out.1.get 1 rfl);have V:w.heap.size+1<d.heap.size:=aG)|(go_at_call 263;refine cp (H.out _ _ _ _) ?_;refine zC ?_;intro w2 aa aI aO aN ah aA aF aE aD au aJ bA bE bD bC aZ bW;obtain⟨R,S,T,O,P,Q⟩:=own6 aa (d.heap.size)))
 have y:=f.out.on (g.mono cm);have I:=(y.alloc (.cells #[.int .u64 h',.int .u64 a,.int .u64 c] 284)).on (aa.mono cm);have i:=I.stored a c;have x:=mX (b:=w.heap.size+1) (ls w.heap.size) [.int .u64 a,.int .u64 c] 0 aI;obtain⟨Y,j⟩:=bx (w2.setCells (w.heap.size+1) 0 [.int .u64 a,.int .u64 c]);change bodyPost _ _ _ _ _ (w2.setCells (w.heap.size+1) 0 [.int .u64 a,.int .u64 c]);rw[<-j] at x ⊢;replace i:C2 Y (w.heap.size+1) a c:=by rw[j];exact i
 have y0:=i.1.get 0 rfl;have y1:=i.1.get 1 rfl;clear j;rw[<-K.out] at hv;unfold Fl.w3 at hv;have E:h'=0:=aG;subst E;have D:a=q / 18446744073709551616:=aG;have C:c=q % 18446744073709551616:=aG;have B:decide (N % 2^n=0)=!z:=by rw[J.out];simp
 refine eB (v:= .tuple #[.agg #[.int .u64 a,.int .u64 c],.bool z]) (by(simp[results,results275,go_sem,y0,y1,B];done)) rfl (RetB.of (by rw[D,C]) x)
end

section
attribute [local go_sem] Dc.Res.val
def ykF (s:ByteArray) (w:World) (hd:Dc.dD s.data.toList=true) (h:0<s.size/\s.size<=9):Calls prog 96 #[.string s] w (RetB (.tuple #[.int .i64 (Dc.jQ s.data.toList),.nilIface]) w):=
 (strconv_Atoi_ok s aG _ (Dc.yfj s.data.toList hd (Dc.ydi s h.1) (by simpa using h.2)).1 w).mono fun e w' a=>⟨a.1,by
  rcases a.2 with e|⟨t,e⟩
  ·rw[e];exact eN
  ·rw[e];exact Td _ _ _⟩
end

def Bx (w:World) (b:Nat) (a:List Value):Prop:=Cs w b a/\ ∀ k,k<4->w.frozen? ⟨b,k,none⟩=false
def ytm: ∀ c:Fin 256,Ce.gI (UInt8.ofNat c.1)=true->(((c.1 &&& 223:Nat):Int)-65) % 256+1=Ce.letV (UInt8.ofNat c.1):=bL
def ypM (c:UInt8) (h:Ce.gI c=true):(bits .andNot .u8 (c.toNat:Int) 32-65) % 256+1=Ce.letV c:=by have a:c.toNat<256:=c.toNat_lt;rw[u8_andNot _ _ aG aG aG aG];have:=ytm ⟨c.toNat,a⟩;simp only[UInt8.ofNat_toNat] at this;have b:=this h;rw[jJ];exact b
def ys6 (l:List UInt8) (c:UInt8):Ce.pA (l++[c])=26*Ce.pA l+Ce.letV c:=by simp[Ce.pA]
def yp7 (l:List UInt8) (h:l.all Ce.gI=true) (hl:l.length<=3):0<=Ce.pA l/\Ce.pA l<=18278/\(l.length<=2->Ce.pA l<=702):=by
 match l,h,hl with
 | [],_,_=>exact⟨by decide,by decide,fun _=>by decide⟩
 | [a],h,_=>
   have e:=Ce.yw (c:=a) nu
   simp only[Ce.pA,List.foldl];omega
 | [a,b],h,_=>
   have e:=Ce.yw (c:=a) (by simp at h;exact h.1)
   have b2:=Ce.yw (c:=b) (by simp at h;exact h.2)
   simp only[Ce.pA,List.foldl];omega
 | [a,b,c],h,_=>
   have e:=Ce.yw (c:=a) (by simp at h;exact h.1)
   have b2:=Ce.yw (c:=b) (by simp at h;exact h.2.1)
   have f:=Ce.yw (c:=c) (by simp at h;exact h.2.2)
   simp only[Ce.pA,List.foldl,gE,rp];omega
 |a::b::c::d::t,_,hl=>simp at hl
def yvo {l:List UInt8} (h:l.all Ce.gI=true) (k:Nat):(l.take k).all Ce.gI=true:=by rw[na] at h ⊢;exact fun c a=>h c (yaj a)
def yqA (N:ByteArray) (h:N.data.toList.all Ce.gI=true) (k:Nat) (a:k<N.size):Ce.pA (N.data.toList.take (k+1))=26*Ce.pA (N.data.toList.take k)+(bits .andNot .u8 (N[k].toNat :Int) 32-65) % 256+1:=by
 have c:k<N.data.toList.length:=by rw[dN];exact a
 have b:=bs_getElem? N k a;rw[n9 c] at b;rw[yh c,tJ b,ys6,Int.add_assoc,ypM];rw[na] at h;exact h _ (yfn (bs_getElem? N k a))
def Bx.col {w:World} {b:Nat} {x y z:Value} {v:Value} {u:Value} (h:Bx w b [v,x,y,z]):Bx ((w.setCell ⟨b,0,none⟩ u).drew) b [u,x,y,z]:=by
 obtain⟨c,d⟩:=h;refine⟨⟨?_,fun k a=>?_⟩,fun k a=>(qj _ _ _ _).trans (d k a)⟩
 ·have:=rX w ⟨b,0,none⟩ u;show b<(w.setCell _ u).heap.size;rw[this];exact c.1
 ·rw[ygs]
  match k,a with
  |0,_=>exact yE _ _ _ (c.get 0 rfl)
  |1,_=>rw[tt _ _ _ _ cn];exact c.get 1 rfl
  |2,_=>rw[tt _ _ _ _ cn];exact c.get 2 rfl
  |3,_=>rw[tt _ _ _ _ cn];exact c.get 3 rfl
  |n+4,a=>exact absurd a cn
def Bx.far {w:World} {b c:Nat} {d:List Value} {u:Value} (h:Bx w b d) (aq:b≠c):Bx ((w.setCell ⟨c,0,none⟩ u).drew) b d:=by
 obtain⟨f,g⟩:=h;refine⟨⟨?_,fun k a=>?_⟩,fun k a=>(qj _ _ _ _).trans (g k a)⟩
 ·have:=rX w ⟨c,0,none⟩ u;show b<(w.setCell _ u).heap.size;rw[this];exact f.1
 ·rw[ygs,tt _ _ _ _ ydc];exact f.2 k a
def ytQ (s A N B C R D:ByteArray) (ac ar:Bool) (w:World) (hc:Cuts s A N B C R D ac ar) (Z:D.size=0) (hN:0<N.size) (kr:N.size<=3) (u:0<R.size) (KL:R.size<=7) (EM: ¬ (R[0].toNat :Int)=48) (X:N.data.toList.all Ce.gI=true) (CD:Dc.dD R.data.toList=true)
 (x y:Int) (Ax:x=Ce.pA N.data.toList) (Rm:y=Dc.jQ R.data.toList) (v:Bool) (hv:v=Ce.right ⟨x-1,y-1,ac,ar⟩) (V:Value) (SO:v=true->V= .tuple #[.agg #[.int .i64 (x-1),.int .i64 (y-1),.bool ac,.bool ar],.int .i64 0]) (SP:v=false->V= .tuple #[.agg #[.int .i64 0,.int .i64 0,.bool false,.bool false],.int .i64 14]):
 Calls prog 210 #[.string s] w (RetB V w):=by
 have t:=fun W=>ykF R W CD ⟨u,by omega⟩;have Rn:=(Dc.yfj R.data.toList CD (Dc.ydi R u) (by rw[dN];omega)).2;rw[<-Rm] at t Rn;have E:=fun W=>LZ (x-1) (y-1) ac ar W;rw[<-hv] at E;obtain⟨T,U,Zb,Ze,Zg⟩:=qF t E Ax SO SP;obtain⟨hy0,hy1⟩:=Rn;clear t E Ax Rm hv SO SP;obtain⟨h1,h2,h3,h4⟩:=hc;obtain⟨H1,H2,H3,H4⟩:=jv h1 h2 h3 h4;have e0:=pB Z;have e1:=oj hN;have e2:=oj u;have e3:((R[0].toNat :Int)==48)=false:=by simpa using EM
 clear h1 h2 h3 h4 Z;go_enter func210,ntmps210
 go_wp2_with (first|(go_at_call 60;refine cY (H1.out _) ?_)|(go_at_call 60;refine cY (H3.out _) ?_)|(go_at_call 246;refine xu ?_;refine zC ?_;intro w1 ab ao ay az af ai am al aj d ap be bh bg bf e ci)|(go_at_call 246;refine cp (H4.out _) ?_;refine zC ?_;intro w2 aa aI aO aN ah aA aF aE aD au aJ bA bE bD bC aZ bW))
 have M:w2.cell? ⟨w.heap.size+1,0,none⟩=some (.int .i64 0):=(aZ 0).trans (by simp[go_sem,e]);have L:w2.cell? ⟨w.heap.size+1,1,none⟩=some (.int .i64 0):=(aZ 1).trans (by simp[go_sem,e]);have K:w2.cell? ⟨w.heap.size+1,2,none⟩=some (.bool ac):=(aZ 2).trans (by simp[go_sem,e]);have J:w2.cell? ⟨w.heap.size+1,3,none⟩=some (.bool ar):=(aZ 3).trans (by simp[go_sem,e]);have S:w2.cell? ⟨w.heap.size,0,none⟩=some (.int .i64 0):=(au 0).trans (by simp[go_sem,d]);have Q:w2.cell? ⟨w.heap.size,1,none⟩=some (.int .i64 0):=(au 1).trans (by simp[go_sem,d]);have P:w2.cell? ⟨w.heap.size,2,none⟩=some (.bool false):=(au 2).trans (by simp[go_sem,d]);have O:w2.cell? ⟨w.heap.size,3,none⟩=some (.bool false):=(au 3).trans (by simp[go_sem,d]);have f0: ∀ k,w2.frozen? ⟨w.heap.size,k,none⟩=false:=fun k=>(aJ k).trans (by simp[go_sem,ap]);have f1: ∀ k,w2.frozen? ⟨w.heap.size+1,k,none⟩=false:=fun k=>(bW k).trans (by simp[go_sem,ci]);go_loopw [58] (fun i wr=> ∃ (k:Nat) (z:Int),k<=N.size/\z=Ce.pA (N.data.toList.take k)/\i= .int .i64 k/\Below w.heap.size w wr/\Bx wr w.heap.size [.int .i64 0,.int .i64 0,.bool false,.bool false]/\Bx wr (w.heap.size+1) [.int .i64 z,.int .i64 0,.bool ac,.bool ar]) (fun i _=>N.size-(intOf i).toNat)
 case atStart=>
  have z1:w.heap.size<w2.heap.size:=aG;have z2:w.heap.size+1<w2.heap.size:=aG
  exact⟨0,0,by omega,rfl,rfl,aI,⟨⟨z1,fun k b=>by match k,b with|0,_=>exact S|1,_=>exact Q|2,_=>exact P|3,_=>exact O|n+4,h=>exact absurd h cn⟩,fun k _=>f0 k⟩,
   ⟨⟨z2,fun k b=>by match k,b with|0,_=>exact M|1,_=>exact L|2,_=>exact K|3,_=>exact J|n+4,h=>exact absurd h cn⟩,fun k _=>f1 k⟩⟩
 case round=>
  obtain⟨k,z,b,hx,rfl,f,AZ,Y⟩:=hrel;have H:=yp7 _ (yvo X k) (by rw[nn,dN];omega);rw[<-hx] at H;obtain⟨jc,kn,q⟩:=H;rw[nn,dN,rD b] at q;obtain⟨HX,HX2,ZC,uK⟩:=jv hx q AZ Y;obtain⟨eI,Sq⟩:=AZ;obtain⟨a,j⟩:=Y;clear hx q;have I:=aL f;have c0:=a.get 0 rfl;have c1:=a.get 1 rfl;have c2:=a.get 2 rfl;have c3:=a.get 3 rfl;have g0:=j 0 aG;obtain⟨c,g,ix,Qt⟩:=jv eI Sq a j;clear eI Sq a j f M L K J S Q P O f0 f1 d e au aZ ap ci aJ bW ay az aO aN ab aa;by_cases aW:k<N.size
  ·have F:=yqA N X k aW;rw[<-HX.out] at F;have mQ:=aL F;clear F;go_wp2
   go_region
   go_wp2
   go_roundw
   case rel=>exact⟨k+1,_,by omega,mQ.out.symm,by go_num,(I.out.setCell cn _).drew,ZC.out.far aG,uK.out.col⟩
   case measure=>simp[intOf];omega
  ·obtain rfl:k=N.size:=aG;have VL:z=x:=by rw[HX.out,Zb.out,n0 (by rw[dN];omega)]
   subst VL;have d0:=c.out.get 0 rfl;have d1:=c.out.get 1 rfl;have d2:=c.out.get 2 rfl;have d3:=c.out.get 3 rfl;have m0:=g.out 0 aG;have m1:=g.out 1 aG;have m2:=g.out 2 aG;have m3:=g.out 3 aG;have g1:=Qt.out 1 aG;have z1:=c.out.1;have z2:=ix.out.1;have f:=I.out;have Cg:=f.size
   cases v with
   |true=>
    have hV:=Ze.out rfl
    have G:=aL hV;clear hV
    go_wp2_with (first|(go_at_call 96;refine cp (T.out _) ?_;intro w5 r;obtain⟨pS,xK,xC,mW⟩:=g9 (w) r;(try simp only[fO,gz,fY,gt] at mW);obtain⟨oH,oG,oE,oB,oz,sD⟩:=own6 r (w.heap.size);obtain⟨BL,Bv,Bk,AV,AO,NI⟩:=own6 r (w.heap.size+1))|(go_at_call 69;refine cp (U.out _) ?_;intro w6 l;obtain⟨Ty,SG,So,Gj⟩:=g9 (w) l;(try simp only[fO,gz,fY,gt] at Gj);obtain⟨BO,BA,Bn,AY,AR,NL⟩:=own6 l (w.heap.size);obtain⟨BK,Bu,Bj,AU,AN,NH⟩:=own6 l (w.heap.size+1)))
    (refine eB (v:= .tuple #[.agg #[.int .i64 (z-1),.int .i64 (y-1),.bool ac,.bool ar],.int .i64 0]) (by(simp[results,results210,go_sem,oz,oH,oG,oE,oB,AO,BL,Bv,Bk,AV,AR,BO,BA,Bn,AY,AN,BK,Bu,Bj,AU,d0,d1,d2,d3,c0,c1,c2,c3];done)) rfl (RetB.of G.out.symm dt))
   |false=>
    have hV:=Zg.out rfl
    have G:=aL hV;clear hV
    go_wp2_with (first|(go_at_call 96;refine cp (T.out _) ?_;intro w7 m;obtain⟨Tx,SF,Sn,Gi⟩:=g9 (w) m;(try simp only[fO,gz,fY,gt] at Gi);obtain⟨BN,Bz,Bm,AX,AQ,NK⟩:=own6 m (w.heap.size);obtain⟨BJ,Bt,Bi,AT,AM,NG⟩:=own6 m (w.heap.size+1))|(go_at_call 69;refine cp (U.out _) ?_;intro w8 o;obtain⟨Tw,SE,Sm,Gh⟩:=g9 (w) o;(try simp only[fO,gz,fY,gt] at Gh);obtain⟨BM,By,Bl,AW,AP,NJ⟩:=own6 o (w.heap.size);obtain⟨BI,Br,Bh,AS,AL,NF⟩:=own6 o (w.heap.size+1)))
    (refine eB (v:= .tuple #[.agg #[.int .i64 0,.int .i64 0,.bool false,.bool false],.int .i64 14]) (by(simp[results,results210,go_sem,AQ,BN,Bz,Bm,AX,AM,BJ,Bt,Bi,AT,AP,BM,By,Bl,AW,AL,BI,Br,Bh,AS,d0,d1,d2,d3,c0,c1,c2,c3];done)) rfl (RetB.of G.out.symm dt))

def Px (s:ByteArray):s.data.toList=[]↔s.size=0:=by rw[<-List.length_eq_zero_iff,dN]
def ynp (s:ByteArray) (w:World) (m:s.size<=9223372036854775807):Calls prog 210 #[.string s] w (RetB (yeJ (Ce.parse s.data.toList)) w):=by
 obtain⟨A,N,B,C,R,D,ac,ar,h⟩:=yva s;have c:=h.cuts m;rw[h.parse];have a:yeJ (Ce.zero,3)= .tuple #[.agg #[.int .i64 0,.int .i64 0,.bool false,.bool false],.int .i64 3]:=rfl;by_cases b:D.size=0
 ·by_cases g:N.size=0
  ·rw[bT (.inr (.inl ((Px N).2 g))),a];exact yt6 s A N B C R D ac ar w c b g
  by_cases j:3<N.size
  ·rw[bT (.inr (.inr (.inl j))),a];exact yrO s A N B C R D ac ar w c b j
  by_cases f:R.size=0
  ·rw[bT (.inr (.inr (.inr (.inl ((Px R).2 f))))),a];exact yny s A N B C R D ac ar w c b aG aG f
  by_cases k:7<R.size
  ·rw[bT (.inr (.inr (.inr (.inr (.inl k))))),a];exact yvD s A N B C R D ac ar w c b aG aG k
  have d:0<R.size:=aG;have hg:=bs_getElem? R 0 d;by_cases i:(R[0].toNat :Int)=48
  ·have e:R[0]=48:=qu.1 (by have:(48:UInt8).toNat =48:=rfl;omega);rw[bT (.inr (.inr (.inr (.inr (.inr (by rw[hg,e])))))),a];exact ynV s A N B C R D ac ar w c b aG aG d aG i
  ·rw[bv (by
    rintro (e|e|e|e|e|e)
    ·exact e ((Px D).2 b)
    ·exact g ((Px N).1 e)
    ·omega
    ·exact f ((Px R).1 e)
    ·omega
    ·rw[hg] at e;apply i;rw[tJ e];rfl)]
   have l:N.data.toList.all Ce.gI=true:=by rw[h.n];exact zb
   have o:Dc.dD R.data.toList=true:=by rw[h.r];exact zb
   refine ytQ s A N B C R D ac ar w c b aG aG d aG i l o _ _ rfl rfl _ rfl _ (fun hv=>?_) (fun hv=>?_)
   ·rw[bT hv];rfl
   ·rw[bv (by rw[hv];simp)];rfl
 ·rw[bT (.inl fun e=>b ((Px D).1 e)),a];exact yrj s A N B C R D ac ar w c aG

def zB:Obj:=Obj.cells #[.string ⟨#[35,78,85,76,76,33]⟩,.string ⟨#[35,68,73,86,47,48,33]⟩,.string ⟨#[35,86,65,76,85,69,33]⟩,.string ⟨#[35,82,69,70,33]⟩,.string ⟨#[35,78,65,77,69,63]⟩,.string ⟨#[35,78,85,77,33]⟩,.string ⟨#[35,78,47,65]⟩,.string ⟨#[35,67,89,67,76,69,33]⟩] 9
def yoX (w:World):Calls prog 33 #[] w (fun e w'=>e= .returned (.slice (some ⟨w.heap.size,0,none⟩) 8 8)/\w'=w.alloc zB):=by
 go_enter func33,ntmps33
 go_wp2
 go_ret
 exact⟨rfl,rfl⟩
def yv1 (n:Int) (w:World):Calls prog 15 #[.int .i64 n] w (RetB (.string ⟨(Fx.jq n).toArray⟩) w):=by
 obtain⟨r,a⟩:=bx (⟨(Fx.jq n).toArray⟩:ByteArray);rw[<-a];have HR:=aL a;clear a;have HF:=aL yoX;by_cases h1:n=1
 ·subst h1;have c0:(w.alloc zB).cell? ⟨w.heap.size,0,none⟩=some (.string ⟨#[35,78,85,76,76,33]⟩):=CW;go_enter func15,ntmps15
  go_wp2_with (first|(go_at_call 33;refine og ?_))
  exact yt
 by_cases h2:n=2
 ·subst h2;have c0:(w.alloc zB).cell? ⟨w.heap.size,1,none⟩=some (.string ⟨#[35,68,73,86,47,48,33]⟩):=CW;go_enter func15,ntmps15
  go_wp2_with (first|(go_at_call 33;refine og ?_))
  exact yt
 by_cases h3:n=3
 ·subst h3;have c0:(w.alloc zB).cell? ⟨w.heap.size,2,none⟩=some (.string ⟨#[35,86,65,76,85,69,33]⟩):=CW;go_enter func15,ntmps15
  go_wp2_with (first|(go_at_call 33;refine og ?_))
  exact yt
 by_cases h4:n=4
 ·subst h4;have c0:(w.alloc zB).cell? ⟨w.heap.size,3,none⟩=some (.string ⟨#[35,82,69,70,33]⟩):=CW;go_enter func15,ntmps15
  go_wp2_with (first|(go_at_call 33;refine og ?_))
  exact yt
 by_cases h5:n=5
 ·subst h5;have c0:(w.alloc zB).cell? ⟨w.heap.size,4,none⟩=some (.string ⟨#[35,78,65,77,69,63]⟩):=CW;go_enter func15,ntmps15
  go_wp2_with (first|(go_at_call 33;refine og ?_))
  exact yt
 by_cases h6:n=6
 ·subst h6;have c0:(w.alloc zB).cell? ⟨w.heap.size,5,none⟩=some (.string ⟨#[35,78,85,77,33]⟩):=CW;go_enter func15,ntmps15
  go_wp2_with (first|(go_at_call 33;refine og ?_))
  exact yt
 by_cases h7:n=7
 ·subst h7;have c0:(w.alloc zB).cell? ⟨w.heap.size,6,none⟩=some (.string ⟨#[35,78,47,65]⟩):=CW;go_enter func15,ntmps15
  go_wp2_with (first|(go_at_call 33;refine og ?_))
  exact yt
 by_cases h8:n=8
 ·subst h8;have c0:(w.alloc zB).cell? ⟨w.heap.size,7,none⟩=some (.string ⟨#[35,67,89,67,76,69,33]⟩):=CW;go_enter func15,ntmps15
  go_wp2_with (first|(go_at_call 33;refine og ?_))
  exact yt
 refine yht ?_;intro HV;by_cases b:n<1
 ·clear h1 h2 h3 h4 h5 h6 h7 h8;exact yiD
 ·have c:8<n:=aG;clear h1 h2 h3 h4 h5 h6 h7 h8;exact yiD
def yth (s:ByteArray) (w:World):Calls prog 56 #[.string s] w (Ret0 (.int .i64 (Fx.eT s.data.toList:Nat)) w):=by
 refine ygE ?_;intro e1 e2 e3 e4 e5 e6 e7 e8 e9 gb ia fP r hr;generalize s.data.toList=l at *;by_cases a:l=[61]
 ·have HR:=aL (show r=1 by rw[hr,a];rfl);rw[fv a] at e1;clear e2 e3 e4 e5 e6 e7 e8 e9 gb ia fP hr a;exact xe
 rw[eL a] at e1;by_cases b:l=[60,62]
 ·have HR:=aL (show r=1 by rw[hr,b];rfl);rw[fv b] at e2;clear e3 e4 e5 e6 e7 e8 e9 gb ia fP hr a b;exact xe
 rw[eL b] at e2;by_cases c:l=[60]
 ·have HR:=aL (show r=1 by rw[hr,c];rfl);rw[fv c] at e3;clear e4 e5 e6 e7 e8 e9 gb ia fP hr a b c;exact xe
 rw[eL c] at e3;by_cases d:l=[60,61]
 ·have HR:=aL (show r=1 by rw[hr,d];rfl);rw[fv d] at e4;clear e5 e6 e7 e8 e9 gb ia fP hr a b c d;exact xe
 rw[eL d] at e4;by_cases e:l=[62]
 ·have HR:=aL (show r=1 by rw[hr,e];rfl);rw[fv e] at e5;clear e6 e7 e8 e9 gb ia fP hr a b c d e;exact xe
 rw[eL e] at e5;by_cases f:l=[62,61]
 ·have HR:=aL (show r=1 by rw[hr,f];rfl);rw[fv f] at e6;clear e7 e8 e9 gb ia fP hr a b c d e f;exact xe
 rw[eL f] at e6;rw[bv (by simp[a,b,c,d,e,f])] at hr;by_cases g:l=[38]
 ·have HR:=aL (show r=2 by rw[hr,bT g]);rw[fv g] at e7;clear e8 e9 gb ia fP hr a b c d e f g;exact xe
 rw[eL g] at e7;rw[bv g] at hr;by_cases i:l=[43]
 ·have HR:=aL (show r=3 by rw[hr,bT (Or.inl i)]);rw[fv i] at e8;clear e9 gb ia fP hr a b c d e f g i;exact xe
 rw[eL i] at e8;by_cases j:l=[45]
 ·have HR:=aL (show r=3 by rw[hr,bT (Or.inr j)]);rw[fv j] at e9;clear gb ia fP hr a b c d e f g i j;exact xe
 rw[eL j] at e9;rw[bv (by simp[i,j])] at hr;by_cases m:l=[42]
 ·have HR:=aL (show r=4 by rw[hr,bT (Or.inl m)]);rw[fv m] at gb;clear ia fP hr a b c d e f g i j m;exact xe
 rw[eL m] at gb;by_cases n:l=[47]
 ·have HR:=aL (show r=4 by rw[hr,bT (Or.inr n)]);rw[fv n] at ia;clear fP hr a b c d e f g i j m n;exact xe
 rw[eL n] at ia;rw[bv (by simp[m,n])] at hr;by_cases o:l=[94]
 ·have HR:=aL (show r=5 by rw[hr,bT o]);rw[fv o] at fP;clear hr a b c d e f g i j m n o;exact xe
 rw[eL o] at fP;rw[bv o] at hr;have HR:=aL hr;clear hr a b c d e f g i j m n o;exact xe

section
attribute [local go_sem] Dc.Res.val
end


end Go.Proofs.YtilbpmimoijfhaaGreatDoor
