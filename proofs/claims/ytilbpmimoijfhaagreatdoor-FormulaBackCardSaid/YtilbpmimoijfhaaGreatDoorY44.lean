/- Formulas: the parser's readings answer, all of them. -/
import Derived.Test.YtilbpmimoijfhaaGreatDoorY43
namespace Go.Proofs.YtilbpmimoijfhaaGreatDoor
set_option linter.all false
set_option maxRecDepth 100000
set_option maxHeartbeats 16000000
open Go.RowKit Go.Proofs.Tryz
section
open Fx (Tr Rs Tk)
def ymX {D L:UInt8} {p g b:Nat} {S:ByteArray} {op:Nat} {l:List UInt8} (c:(Fx.tok D L l).kind =3) (f:Lib.hasPrefix (Fx.tok D L l).end' [40]=true->ybt p g b D L S op (Fx.tok D L l).end'):Ba p g b D L S op l:=by
 cases a:Lib.hasPrefix (Fx.tok D L l).end' [40] with
 |true=>
  cases e:Fx.oF (Ce.eY (Fx.tok D L l).text) with
  |true=>exact ynQ p g b D L S op l c a e (f a)
  |false=>exact ypc p g b D L S op l c a e
 |false=>
  by_cases hb:Ce.eY (Fx.tok D L l).text =Fx.qZ∨Ce.eY (Fx.tok D L l).text =Fx.so
  ·exact yps p g b D L S op l c a hb
  ·by_cases hx:(Fx.mf (Fx.tok D L l)).2 =0
   ·by_cases hn:(Fx.tok D L (Fx.tok D L l).end').kind =5/\(Fx.tok D L (Fx.tok D L l).end').text =[58]
    ·by_cases d:(Fx.tok D L (Fx.tok D L (Fx.tok D L l).end').end').kind ≠3∨Ce.eY (Fx.tok D L (Fx.tok D L (Fx.tok D L l).end').end').text =Fx.qZ∨Ce.eY (Fx.tok D L (Fx.tok D L (Fx.tok D L l).end').end').text =Fx.so∨Lib.hasPrefix (Fx.tok D L (Fx.tok D L (Fx.tok D L l).end').end').end' [40]=true
     ·exact yvu p g b D L S op l c a hb hx hn d
     ·exact yuR p g b D L S op l c a hb hx hn d
    ·exact yoj p g b D L S op l c a hb hx hn
   ·exact yry p g b D L S op l c a hb hx
def yn9 {D L:UInt8} {p g b:Nat} {S:ByteArray} {op:Nat} {l:List UInt8} (k: ∀ j a,a.length<l.length->zK p g b D L S 1 j a) (m: ∀ a,a.length<l.length->Lib.hasPrefix a [40]=true->ybt p g b D L S op a):A7 p g b D L S op l:=by
 by_cases i:(Fx.tok D L l).kind =1
 ·exact yvR p g b D L S op l i
 by_cases f:(Fx.tok D L l).kind =2
 ·exact yuQ p g b D L S op l f
 by_cases e:(Fx.tok D L l).kind =4
 ·exact ysF p g b D L S op l e
 by_cases c:(Fx.tok D L l).kind =3
 ·exact yoW p g b D L S op l c (ymX c fun h=>m _ (Fx.zI D L l aG aG) h)
 by_cases d:(Fx.tok D L l).kind =5/\(Fx.tok D L l).text =[40]
 ·exact ysD p g b D L S op l d k
 ·exact ynO p g b D L S op l i f c e d
def yvL {D L:UInt8} (hl:Fx.Lc D L) (p g b:Nat) (S:ByteArray): ∀ N:Nat,
 (∀ n op l,1<=n->n<=6->12*l.length+10-n<N->zK p g b D L S n op l)/\(∀ op l,12*l.length+3<N->L8 p g b D L S op l)/\(∀ op l,12*l.length+2<N->A7 p g b D L S op l):=by
 intro N
 induction N with
 |zero=>exact⟨fun n op l _ _ h=>by omega,fun op l h=>by omega,fun op l h=>by omega⟩
 |succ N k=>
  obtain⟨d,e,m⟩:=k
  refine⟨fun n op l r s h=>?_,fun op l h=>?_,fun op l h=>?_⟩
  ·by_cases q:n<=5
   ·exact ypu p g b D L S n op l r q fun a c=>d _ _ _ aG aG aG
   ·have:n=6:=aG
    subst this
    exact yve p g b D L S op l (e _ _ aG)
  ·by_cases f:(Fx.tok D L l).kind =5/\Fx.eT (Fx.tok D L l).text =3
   ·exact ynT p g b D L S op l f fun i a c=>e _ _ aG
   ·exact yr6 p g b D L S op l f (m _ _ aG)
  ·exact yn9 (fun i a c=>d _ _ _ cm aG aG) fun a c o=>
    yuc hl p g b S op a o fun u j t=>d _ _ _ cm aG aG
def yrJ {D L:UInt8} (hl:Fx.Lc D L) (p g b:Nat) (S:ByteArray) (l:List UInt8):zK p g b D L S 1 0 l:=(yvL hl p g b S (12*l.length+10)).1 1 0 l cm bL aG
end

section
open Fx (Tr Rs Tk)
attribute [local go_sem ↓] qh qn xy xc
attribute [local go_sem] yeV ydj
def yuG {f:Func} {n m k:Nat} (g:f.results= #[ResultVar.cell n 27,ResultVar.tmp m,ResultVar.tmp k]) {tmps:Array Value} {B:Nat} {W:World} {X b c:Value} (h:tmps.getD n undef= .pointer (some ⟨B,0,none⟩)) (hb:tmps.getD m undef=b) (l:tmps.getD k undef=c) (D:Nd W B X):
 (results f tmps).run prog W= .ok (.tuple #[X,b,c]) W:=by
 refine ycM ?_;intro h' jm;have a:tmps[k]?.getD undef=c:=by simpa using l
 obtain⟨cs,i,mm⟩:=D;obtain⟨d,e,hd⟩:=VQ;have hv:=yeM (P:=prog) W B 0 _ cs d (fun j v hv=>by rw[iR];exact mm.get j hv) e hd (by rw[OP,i.len]);rw[<-i.val] at hv;simp[results,g,h',jm,a,asAddr,zM,zq,z7,hv]
def N0 {f:Func} {n m k:Nat} {Q:Ending->World->Prop} (a:f.results= #[ResultVar.cell n 27,ResultVar.tmp m,ResultVar.tmp k]) {tmps:Array Value} {B:Nat} {W:World} {X b c:Value} (h:tmps.getD n undef= .pointer (some ⟨B,0,none⟩)) (hb:tmps.getD m undef=b) (d:tmps.getD k undef=c) (D:Nd W B X)
 (e:Q (.returned (.tuple #[X,b,c])) W):bodyPost prog f Q Exit.ret {tmps:=tmps,defers:=[]} W:=
 eB (yuG a h hb d D) rfl e
def ParseR (b:Nat) (pr:Option Tr × Int × Int) (w:World) (e:Ending) (w':World):Prop:=
 ∃ X,e= .returned (.tuple #[X,.int .i64 pr.2.1,.int .i64 pr.2.2])/\TreeV w' w.heap.size X (pr.1.getD zn)/\Onl b w w'/\Rdr w' b
def Onl.yhX {p b:Nat} {w w':World} (h:Two p b w w') (hb:b<w.heap.size) (c:w.heap.size<=p):Onl b w w':=
 ⟨h.below aG cm (lY hb),fun k a hl=>h.block k aG a hl⟩
def ParseR.none {b p:Nat} {x pl:Int} {w W:World} {B:Nat} (h:Two p b w W) (hb:b<w.heap.size) (d:w.heap.size<=p) (c:Rdr W b) (a:w.heap.size<=B):
 ParseR b (.none,x,pl) w (.returned (.tuple #[znv,.int .i64 x,.int .i64 pl])) (nput W B znv):=
 ⟨znv,rfl,(TreeV.leaf (nput W B znv) w.heap.size (t:=zn) rfl),(Onl.yhX h hb d).own (yH _ a) hb,c.below (yH (C:=w.heap.size) _ a) hb⟩
def TreeX.at {w:World} {A:Nat->Prop} {X:Value} {t:Tr} {lo hi:Nat} (h:TreeX w A X t) (b: ∀ k,A k->lo<=k/\k<hi): ∃ v,X=trv t v/\TreeAt w lo hi t v:=by obtain⟨v,e,a⟩:=h;exact⟨v,e,TreeS.at' b _ cm a⟩
def yw8 {w:World} {g b:Nat} {D L:UInt8} (h:FoR w g b D L) (s:ByteArray) (d:1000<s.size) (l:s.size<=9223372036854775807):
 Calls prog 21 #[.pointer (some ⟨g,0,none⟩),.string s] w (ParseR b (Fx.parse D L s.data.toList) w):=by
 rw[Fx.V0,bT (by rw[dN];exact d)];have k:(1000:Int)<(s.size:Int):=aG;have a:=Nd.zero w;have f:=xr a;have c:Below w.heap.size w (w.alloc jg):=ek;unfold jg at a f c;have j:=aL a.putZero;obtain⟨e,i⟩:=dY c h;have bl:=h.rd.lt;clear a c h d;go_enter func21,ntmps21
 go_wp2_with fail
 refine N0 results21 es es es j.out ?_;exact ParseR.none (p:=w.heap.size) (x:=4) (pl:=0) (Two.of e.out) bl cm (i.out.on e.out).rd cm
end

section
open Fx (Tr Rs Tk)
attribute [local go_sem ↓] qh qn xy xc
attribute [local go_sem] yeV ydj
def prOf (D L:UInt8) (n:Nat):Rs->Option Tr × Int × Int
 | .ok t l=>if(Fx.tok D L l).kind ≠0 then(none,13,(n-(Fx.tok D L l).at'.length :Nat)) else if 500<Fx.num t then(none,5,0) else if 100<Fx.deep t then(none,7,0) else(some t,0,0)
 | .er e l=>(none,e,(n-l.length:Nat))
def ysc {D L:UInt8} {s:List UInt8} (h: ¬ 1000<s.length):Fx.parse D L s=prOf D L s.length (Fx.jr D L 1 0 s):=by rw[Fx.V0,bv h];cases Fx.jr D L 1 0 s<;>rfl
def Two.drewR {g h:Nat} {w w':World} (x:Two g h w w'):Two g h w w'.drew:=x.trans (Two.of (eN.drew))
def ypC {D L:UInt8} (iC:Fx.Lc D L) {w:World} {g b:Nat} (h:FoR w g b D L) (s:ByteArray) (hs: ¬ 1000<s.size):
 Calls prog 21 #[.pointer (some ⟨g,0,none⟩),.string s] w (ParseR b (Fx.parse D L s.data.toList) w):=by
 rw[ysc (by rw[dN];exact hs)];have i1: ¬ (1000:Int)<(s.size:Int):=aG;have bl:=h.rd.lt;have gl:=h.gl;have el:=h.ev.lt;have d4:=(Nd.zero w).on ((oA _ (w.alloc jg)).alloc cm (Obj.cells #[.pointer (some ⟨g,0,none⟩),.string s,.int .i64 0,.int .i64 0,.int .i64 0,.int .i64 0] 73));have S:Below w.heap.size w ((w.alloc jg).alloc (Obj.cells #[.pointer (some ⟨g,0,none⟩),.string s,.int .i64 0,.int .i64 0,.int .i64 0,.int .i64 0] 73)):=(ek).alloc cn _;have m4:=Mem.new (w.alloc jg) [.pointer (some ⟨g,0,none⟩),.string s,.int .i64 0,.int .i64 0,.int .i64 0,.int .i64 0] 73;rw[i7] at m4
 have j:Ps ((w.alloc jg).alloc (Obj.cells #[.pointer (some ⟨g,0,none⟩),.string s,.int .i64 0,.int .i64 0,.int .i64 0,.int .i64 0] 73)) (w.heap.size+1) g b D L s s.data.toList 0:=
  ⟨by rw[show(s.size-s.data.toList.length:Nat)=0 by rw[dN];omega];exact m4,h.on S,by omega,by omega,by omega,zT _,by omega,by omega⟩
 have N:=yrJ iC (w.heap.size+1) g b s s.data.toList _ j;rw[show((1:Nat):Int)=1 from rfl] at N;obtain⟨r1,dH⟩:=bx (Fx.jr D L 1 0 s.data.toList);rw[<-dH] at N ⊢;have kC:s.data.toList.length=s.size:=dN s;rw[kC];obtain⟨pr,mJ⟩:=bx (prOf D L s.size r1);rw[<-mJ];have xY:=aL mJ;clear mJ;unfold jg at d4 S N j;obtain⟨D4,B4,qJ,tU,wG,HSL⟩:=ts d4 S N j dH kC;clear d4 S m4 j N dH h kC;go_enter func21,ntmps21
 go_upto_region 5 with (first|(go_at_call 40;refine cV qJ.out ?_;rintro e n ⟨z,c,rfl,fF,eJ,fq⟩;obtain⟨cs,bN⟩:=fF.isN;have qc:=jP (Nd.zero n) bN;(unfold jg at qc);obtain⟨DI,uO,pY,iP⟩:=jv fF eJ fq bN;have cH:=eJ.size;(try simp only[i7] at cH);clear fF eJ fq bN))
 obtain⟨Z5,M⟩:=bx (nput (n.alloc jg) n.heap.size z);have T:Nd Z5 n.heap.size z:=by rw[M];exact(Nd.zero n).put iP.out
 have B:Below n.heap.size n Z5:=by rw[M];exact zg cm (ek)
 unfold jg at M;rw[<-M];obtain⟨p,hp⟩:=bx (w.heap.size+1);obtain⟨B8,K0⟩:=bx (n.heap.size);have ct:Nd Z5 w.heap.size znv:=(D4.out.two uO.out aG aG).below B aG;have h2:Two (w.heap.size+1) b w Z5:=((Two.of B4.out).trans uO.out).own (B.mono aG);have V:=pY.out.below B aG
 have nB: ∃ A,TreeX Z5 A z c/\ ∀ k,A k->w.heap.size+2<=k/\k<n.heap.size:=by obtain⟨A,P,a2⟩:=DI.out;simp only[i7] at a2;exact⟨A,P.kept (fun _ h=>h) (fun k hk=>B.block k (a2 k hk).2),a2⟩
 rw[<-hp] at h2 V ⊢;rw[<-K0] at T nB B cH ⊢;have pw:w.heap.size<p:=aG;have pb:p<B8:=aG;obtain⟨JD,ic,H2,LE,tQ⟩:=qF T ct h2 V nB;have Em:=T.lt;have xx:g<p:=aG;have Xl:b<p:=aG;clear M T B ct h2 V nB qc hp K0;rcases Q3 r1 with ⟨u1,r,er,E⟩|⟨U,q1,er,E⟩
 ·rw[E];obtain⟨rfl,j⟩:=(show c=u1/\Ps Z5 p g b D L s r 0 by have:=LE.out;rw[er] at this;exact this);have d:=xY.out;rw[er] at d;unfold prOf at d;simp only at d;have O:=Lu j;unfold tokV tkv at O;obtain⟨K2,I⟩:=bx ((Fx.tok D L r).kind :Int);obtain⟨F2,kN⟩:=bx ((s.size-(Fx.tok D L r).at'.length :Nat):Int);obtain⟨N2,iU⟩:=bx ((if(Fx.tok D L r).kind =6 then(0:Int) else((s.size-(Fx.tok D L r).end'.length :Nat):Int)):Int);obtain⟨T2,ir⟩:=bx (⟨(Fx.tok D L r).text.toArray⟩:ByteArray);obtain⟨E2,jo⟩:=bx ((Fx.tok D L r).exp :Int);rw[<-I,<-kN,<-iU,<-ir,<-jo] at O;obtain⟨ib,Js⟩:=dY O j;by_cases H:(Fx.tok D L r).kind =0
  ·have q0:(K2 != 0)=false:=by rw[I,H];rfl
   have q:=d;rw[bv (by rw[H];decide)] at q;obtain⟨A,P,a2⟩:=tQ.out
   have ez: ∀ W:World,Below Z5.heap.size Z5 W->Calls prog 10 #[z] W (RetB (.tuple #[.int .i64 (Fx.size c).1,.int .i64 (Fx.size c).2]) W):=fun W hW=>by have a3:TreeX W A z c:=P.kept (fun _ h=>h) (fun k hk=>hW.block k Ia);obtain⟨v,hv,GL⟩:=a3.at (lo:=w.heap.size+2) (hi:=B8) a2;rw[hv];exact yfu c v _ _ W GL (by have:=hW.size;omega)
   obtain⟨Q,Z⟩:=bx ((Fx.size c).1);obtain⟨SD,Y⟩:=bx ((Fx.size c).2);rw[<-Z,<-Y] at ez;have Lw:=aL ez
   have vN:((500:Int)<(Q:Int)/\pr=(none,5,0))∨(¬ (500:Int)<(Q:Int)/\(100:Int)<(SD:Int)/\pr=(none,7,0))∨(¬ (500:Int)<(Q:Int)/\ ¬ (100:Int)<(SD:Int)/\pr=(some c,0,0)):=by
    have Kf:(500<Q)↔500<Fx.num c:=by
     rw[Z];unfold Fx.size;by_cases h:1000<Fx.num c
     ·rw[bT h];simp only;omega
     ·rw[bv h]
    by_cases J:500<Fx.num c
    ·exact .inl ⟨by have:=Kf.2 J;omega,by rw[q,bT J]⟩
    ·have h6:SD=Fx.deep c:=by rw[Y];unfold Fx.size;rw[bv aG]
     have h7: ¬ 500<Q:=fun h=>J (Kf.1 h);by_cases h8:100<Fx.deep c
     ·exact .inr (.inl ⟨by omega,by omega,by rw[q,bv J,bT h8]⟩)
     ·exact .inr (.inr ⟨by omega,by omega,by rw[q,bv J,bv h8]⟩)
   obtain⟨Pq,UF⟩:=dY P a2;clear O d j I kN iU ir jo H q ez Z Y er E P a2;go_upto_region 9 with (first|(go_at_call 41;refine cp ib.out ?_;intro w2 hb2;have l:=aL hb2;have eK:=hb2.size;clear hb2))
   have CM:=JD.out.on l.out;have IP:=ic.out.on l.out;have lF:=fx CM;obtain⟨Qc,P9⟩:=dY IP CM;clear IP CM;go_upto_region 10 with (first|(go_at_call 10;refine cp (Lw.out _ l.out) ?_;intro w3 aU;have F:=aL aU;have fb:=aU.size;clear aU))
   have ID:=P9.out.on F.out;have f:=Qc.out.on F.out;have WI:=fx ID;have Wa:=xr f;have RB:=jP f iP.out;have pg:=aL f;have G:=aL (show Two p b w w3 from(H2.out.trans (Two.of l.out)).trans (Two.of F.out));have y:=aL ((Js.out.fo.rd.on l.out).on F.out);clear f ID;rcases vN with ⟨c1,t⟩|⟨c1,c2,t⟩|⟨c1,c2,t⟩
   ·have R:=aL t;clear t;go_wp2_with fail
    refine N0 results21 es es es pg.out.putZero ?_;rw[R.out];exact ParseR.none (x:=5) (pl:=0) G.out bl (lY pw) y.out cm
   ·have R:=aL t;clear t;go_wp2_with fail
    refine N0 results21 es es es pg.out.putZero ?_;rw[R.out];exact ParseR.none (x:=7) (pl:=0) G.out bl (lY pw) y.out cm
   ·have R:=aL t;clear t;go_wp2_with fail
    refine N0 results21 es es es (pg.out.put iP.out) ?_;rw[R.out];refine⟨z,rfl,⟨A,Pq.out.kept (fun _ h=>h) (fun k hk=>?_),fun k hk=>?_⟩,(Onl.yhX G.out bl (lY pw)).own (yH _ cm) bl,y.out.below (yH (C:=w.heap.size) _ cm) bl⟩
    ·have:=UF.out k hk;rw[uz aG z,F.out.block k aG,l.out.block k aG]
    ·have:=UF.out k hk;rw[yI];omega
  ·have q0:(K2 != 0)=true:=by rw[rZ,I];omega
   have q:=d;rw[bT H] at q;have iX:=aL (fun W (hb:Below Z5.heap.size Z5 W)=>Yq (j.on hb));have PR:=aL q;have Wq:=j.mem.lt;clear O d j I kN iU ir jo H q er E;go_upto_region 7 with (first|(go_at_call 41;refine cp ib.out ?_;intro w2 hb2;have l:=aL hb2;have eK:=hb2.size;clear hb2)|(go_at_call 42;refine cV (iX.out _ l.out) ?_;refine vb ?_;intro w3 fg fR fb))
   obtain⟨i,o,m⟩:=fR.out.mem;have f:Nd w3 w.heap.size znv:=(ic.out.on l.out).of (fg.out.block w.heap.size aG aG);obtain⟨pl,u⟩:=bx ((s.size-(Fx.tok D L r).at'.length :Nat):Int);have c4:=m.get 4 rfl;have c5:=m.get 5 rfl;rw[<-u] at c5;have X:=aL u;have G:=aL (show Two p b w w3 from(H2.out.trans (Two.of l.out)).trans (Two.onl fg.out));have K:=fR.out.fo.rd;have dg:=xr (show Nd w3.drew w.heap.size znv from f);have O9:(nput w3.drew w.heap.size znv).cell? ⟨p,4,none⟩=_:=(sf (a:=⟨p,4,none⟩) (uz yb2 _)).trans (show w3.drew.cell? ⟨p,4,none⟩=_ from c4);have O8:(nput w3.drew w.heap.size znv).cell? ⟨p,5,none⟩=_:=(sf (a:=⟨p,5,none⟩) (uz yb2 _)).trans (show w3.drew.cell? ⟨p,5,none⟩=_ from c5);have y:=aL (show Rdr w3.drew b from K.on (eN.drew));have P8:=aL (show Nd (nput w3.drew w.heap.size znv) w.heap.size znv from(show Nd w3.drew w.heap.size znv from f).putZero);clear m u K f;go_upto_region 8 with (fail)
   go_region_held3 (fun w'=>w'.cell? ⟨p,4,none⟩=some (.int .i64 13)/\w'.cell? ⟨p,5,none⟩=some (.int .i64 pl))
    (first|go_keep|exact⟨O9,O8⟩|exact⟨c4,c5⟩)
    (fail)
   go_wp2_with fail
   refine N0 results21 es es es P8.out ?_;rw[PR.out,<-X.out];exact ParseR.none (x:=13) (pl:=pl) G.out.drewR bl (lY pw) y.out cm
 ·rw[E];have d:=xY.out;rw[er] at d;unfold prOf at d;simp only at d;have mg:Pe Z5 p g b D L s U q1:=by have:=LE.out;rw[er] at this;exact this
  obtain⟨i,o,m⟩:=mg.mem;have c4:=m.get 4 rfl;have c5:=m.get 5 rfl;obtain⟨pl,u⟩:=bx ((s.size-q1.length:Nat):Int);rw[<-u] at c5;have K:=mg.fo.rd;obtain⟨PV,X⟩:=dY d u;have f:=ic.out;clear mg er E d;have dg:=xr (show Nd Z5.drew w.heap.size znv from f);have O9:(nput Z5.drew w.heap.size znv).cell? ⟨p,4,none⟩=_:=(sf (a:=⟨p,4,none⟩) (uz yb2 _)).trans (show Z5.drew.cell? ⟨p,4,none⟩=_ from c4);have O8:(nput Z5.drew w.heap.size znv).cell? ⟨p,5,none⟩=_:=(sf (a:=⟨p,5,none⟩) (uz yb2 _)).trans (show Z5.drew.cell? ⟨p,5,none⟩=_ from c5);have y:=aL (show Rdr Z5.drew b from K.on (eN.drew));have P8:=aL (show Nd (nput Z5.drew w.heap.size znv) w.heap.size znv from(show Nd Z5.drew w.heap.size znv from f).putZero);clear m u K f;go_upto_region 8 with (fail)
  go_region_held3 (fun w'=>w'.cell? ⟨p,4,none⟩=some (.int .i64 U)/\w'.cell? ⟨p,5,none⟩=some (.int .i64 pl))
   (first|go_keep|exact⟨O9,O8⟩|exact⟨c4,c5⟩)
   (fail)
  go_wp2_with fail
  refine N0 results21 es es es P8.out ?_;rw[PV.out,<-X.out];exact ParseR.none (x:=U) (pl:=pl) H2.out.drewR bl (lY pw) y.out cm
def yf9 {D L:UInt8} (a:Fx.Lc D L) {w:World} {g b:Nat} (h:FoR w g b D L) (s:ByteArray) (c:s.size<=9223372036854775807):
 Calls prog 21 #[.pointer (some ⟨g,0,none⟩),.string s] w (ParseR b (Fx.parse D L s.data.toList) w):=by
 by_cases hl:1000<s.size
 ·exact yw8 h s hl c
 ·exact ypC a h s hl
end

structure FoW (w:World) (g b v b2:Nat) (D L:UInt8):Prop where
 fo:FoR w g b D L
 wrc:w.cell? ⟨g,11,none⟩=some (.pointer (some ⟨v,0,none⟩))
 wr:Wtr w v b2
 nb:b≠b2
 nv:v≠b
 ng:g≠b2
def yfD (n i m pc k:ByteArray) (j sp:Bool) (f d:Nat) (D L:UInt8) (w:World) (q:EvR w):
 Calls prog 18 #[.agg #[.string n,.string ⟨#[D]⟩,.string i,.string ⟨#[L]⟩,.string m,.string pc,.string k,.bool j,.bool sp,.slice (some ⟨f,0,none⟩) d d]] w
  (fun e w'=> ∃ g b v b2:Nat,e= .returned (.pointer (some ⟨g,0,none⟩))/\w.heap.size<=g/\w.heap.size<=b/\w.heap.size<=v/\w.heap.size<=b2/\FoW w' g b v b2 D L/\Below w.heap.size w w'):=by
 have I:=aL (fun c=>yg5 c);have H:=aL (fun c=>yqm c);have F:=q.lt;have J:=aL q;clear q;go_enter func18,ntmps18
 go_upto_region 1 with (fail)
 obtain⟨W,hW⟩:=bx (w.alloc (.cells #[.string n,.string ⟨#[D]⟩,.string i,.string ⟨#[L]⟩,.string m,.string pc,.string k,.bool j,.bool sp,.slice (some ⟨f,0,none⟩) d d] 36));have c0:W.cell? ⟨w.heap.size,0,none⟩=some (.string n):=qd;have c1:W.cell? ⟨w.heap.size,1,none⟩=some (.string ⟨#[D]⟩):=qd;have c2:W.cell? ⟨w.heap.size,2,none⟩=some (.string i):=qd;have c3:W.cell? ⟨w.heap.size,3,none⟩=some (.string ⟨#[L]⟩):=qd;have c4:W.cell? ⟨w.heap.size,4,none⟩=some (.string m):=qd;have c5:W.cell? ⟨w.heap.size,5,none⟩=some (.string pc):=qd;have c6:W.cell? ⟨w.heap.size,6,none⟩=some (.string k):=qd;have c7:W.cell? ⟨w.heap.size,7,none⟩=some (.bool j):=qd;have c8:W.cell? ⟨w.heap.size,8,none⟩=some (.bool sp):=qd;have c9:W.cell? ⟨w.heap.size,9,none⟩=some (.slice (some ⟨f,0,none⟩) d d):=qd;have hl:w.heap.size<W.heap.size:=by rw[hW];simp
 have A:Below w.heap.size w W:=by rw[hW];exact ek
 rw[<-hW];have E:=aL A;clear A hW
 go_region_held3 (fun w'=>w'.cell? ⟨w.heap.size,0,none⟩=some (.string n)/\w'.cell? ⟨w.heap.size,1,none⟩=some (.string ⟨#[D]⟩)/\w'.cell? ⟨w.heap.size,2,none⟩=some (.string i)/\w'.cell? ⟨w.heap.size,3,none⟩=some (.string ⟨#[L]⟩)/\w'.cell? ⟨w.heap.size,4,none⟩=some (.string m)/\w'.cell? ⟨w.heap.size,5,none⟩=some (.string pc)/\w'.cell? ⟨w.heap.size,6,none⟩=some (.string k)/\w'.cell? ⟨w.heap.size,7,none⟩=some (.bool j)/\w'.cell? ⟨w.heap.size,8,none⟩=some (.bool sp)/\w'.cell? ⟨w.heap.size,9,none⟩=some (.slice (some ⟨f,0,none⟩) d d))
  (first|exact⟨(oL (B:=W.heap.size) (w:=W) (p:=⟨w.heap.size,0,none⟩) dt hl).trans c0,(oL (B:=W.heap.size) (w:=W) (p:=⟨w.heap.size,1,none⟩) dt hl).trans c1,(oL (B:=W.heap.size) (w:=W) (p:=⟨w.heap.size,2,none⟩) dt hl).trans c2,(oL (B:=W.heap.size) (w:=W) (p:=⟨w.heap.size,3,none⟩) dt hl).trans c3,(oL (B:=W.heap.size) (w:=W) (p:=⟨w.heap.size,4,none⟩) dt hl).trans c4,(oL (B:=W.heap.size) (w:=W) (p:=⟨w.heap.size,5,none⟩) dt hl).trans c5,(oL (B:=W.heap.size) (w:=W) (p:=⟨w.heap.size,6,none⟩) dt hl).trans c6,(oL (B:=W.heap.size) (w:=W) (p:=⟨w.heap.size,7,none⟩) dt hl).trans c7,(oL (B:=W.heap.size) (w:=W) (p:=⟨w.heap.size,8,none⟩) dt hl).trans c8,(oL (B:=W.heap.size) (w:=W) (p:=⟨w.heap.size,9,none⟩) dt hl).trans c9⟩|go_keep)
  (first|(go_at_call 36;refine cV (I.out _) ?_;rintro e c ⟨rfl,K,y⟩;have l:Below W.heap.size W c:=(by first|exact y|exact(eN.drew).trans y);have M:=l.size;have u:Rdr c W.heap.size:=K;have G:=u.lt)|(go_at_call 37;refine cV (H.out _) ?_;rintro e a ⟨v,b2,rfl,P,hb2,z,aU⟩;have s:Below c.heap.size c a:=yfg;have t:Below W.heap.size W a:=l.trans (s.mono l.size);have Q:=t.size;have O:=s.size;have N:=z.rd.lt))
 all_goals(go_wp2_with fail;go_ret)
 all_goals(
  have x: ∀ o T,Below a.heap.size a (a.alloc (Obj.cells o T)):=fun o T=>ek
  have r:Below w.heap.size w a:=E.out.trans (t.mono aG)
  have C:Rdr a W.heap.size:=u.below s G
  refine⟨a.heap.size,W.heap.size,v,b2,rfl,by omega,by omega,by omega,by omega,⟨⟨?_,?_,?_,C.on (x _ _),by simp,by omega,EvR.of J.out (r.alloc aG _).size ((r.alloc aG _).block _ F),by omega⟩,?_,z.on (x _ _),by omega,by omega,by omega⟩,r.alloc aG _⟩
  all_goals(simp[go_sem]))

def Wx (p:Value):Sem Value:=Instr.loadAt 36 p
def We (p:Value):Instr.loadAt 36 p=Wx p:=rfl
def MR (p v:Value):Sem Unit:=Instr.storeAt 36 p v
def Wy (p v:Value):Instr.storeAt 36 p v=MR p v:=rfl
def yjL:(prog.info? 36).map (·.size)=some 10:=cI
def ymU: ∃ d,prog.underlying 36=some d/\d.isRow=true:=by refine⟨_,underlying36,?_⟩;kernel_rfl
def zS {w:World} {B:Nat} {cs:List Value} (h:Mem w B cs 36) (hl:cs.length=10):(Wx (.pointer (some ⟨B,0,none⟩))).run prog w= .ok (.agg cs.toArray) w:=by obtain⟨d,a,hd⟩:=ymU;exact yco w B 0 _ cs d (fun j v hv=>by rw[iR];exact h.get j hv) a hd (by rw[yjL,hl])
def WG {w:World} {B:Nat} {cs ds:List Value} (h:Mem w B cs 36) (hl:cs.length=10) (hd:ds.length=10) (a: ∀ v ∈ ds,v.oneCell'=true):
 (MR (.pointer (some ⟨B,0,none⟩)) (.agg ds.toArray)).run prog w= .ok () (w.setCells B 0 ds):=by
 have:=ybl (P:=prog) w B 0 36 ds.toArray (fun j hj=>by
  rw[iR];refine⟨?_,h.frozen j⟩;rw[MC,hd,<-hl] at hj
  rw[h.get j (n9 hj)];rfl) (by rw[yjL,MC,hd]) (yd0 a)
 rw[yfk] at this;exact this

def Yv (p:Value):Sem Value:=Instr.loadAt 38 p
def LP (p:Value):Instr.loadAt 38 p=Yv p:=rfl
def To (p v:Value):Sem Unit:=Instr.storeAt 38 p v
def yaS (p v:Value):Instr.storeAt 38 p v=To p v:=rfl
def ylG:(prog.info? 38).map (·.size)=some 10:=cI
def yuW: ∃ d,prog.underlying 38=some d/\d.isRow=true:=by refine⟨_,underlying38,?_⟩;kernel_rfl
def yis {w:World} {B o:Nat} {cs:List Value} (h:w.rangeAt B o cs) (hl:cs.length=10):(Yv (.pointer (some ⟨B,o,none⟩))).run prog w= .ok (.agg cs.toArray) w:=by obtain⟨d,a,hd⟩:=yuW;exact yco w B o _ cs d h a hd (by rw[ylG,hl])
def yhz {w:World} {B:Nat} {cs:List Value} (h:Mem w B cs 38) (hl:cs.length=10):(Yv (.pointer (some ⟨B,0,none⟩))).run prog w= .ok (.agg cs.toArray) w:=
 yis (fun j v hv=>by rw[iR];exact h.get j hv) hl
def ybb {w:World} {B:Nat} {cs ds:List Value} (h:Mem w B cs 38) (hl:cs.length=10) (hd:ds.length=10) (a: ∀ v ∈ ds,v.oneCell'=true):
 (To (.pointer (some ⟨B,0,none⟩)) (.agg ds.toArray)).run prog w= .ok () (w.setCells B 0 ds):=by
 have:=ybl (P:=prog) w B 0 38 ds.toArray (fun j hj=>by
  rw[iR];refine⟨?_,h.frozen j⟩;rw[MC,hd,<-hl] at hj
  rw[h.get j (n9 hj)];rfl) (by rw[ylG,MC,hd]) (yd0 a)
 rw[yfk] at this;exact this
def Cu {l:List Value} (h:(l.all (·.oneCell'))=true): ∀ v ∈ l,v.oneCell'=true:=fun v hv=>na.1 h v hv
def zk:List Value:=[.string ⟨#[]⟩,.string ⟨#[]⟩,.string ⟨#[]⟩,.string ⟨#[]⟩,.string ⟨#[]⟩,.string ⟨#[]⟩,.string ⟨#[]⟩,.bool false,.bool false,.slice none 0 0]
def OQ:List Value:=[.string ⟨#[]⟩,.string ⟨#[]⟩,.string ⟨#[]⟩,.string ⟨#[]⟩,.string ⟨#[]⟩,.string ⟨#[]⟩,.string ⟨#[]⟩,.bool false,.bool false,.int .i64 0]

section
def yka (n:Nat): ∀ (css:List (List Value)) (k j:Nat) (c:List Value) (u:Value),(∀ c ∈ css,c.length=n)->css[k]? =some c->c[j]? =some u->css.flatten[k*n+j]? =some u
 | [],k,j,c,u,_,h,_=>by simp at h
 |d::css,0,j,c,u,hl,h,hj=>by obtain rfl:d=c:=nu;have a:=hl d cn;have:j<d.length:=(o6.1 hj).1;rw[WQ,qo,iR,zf this];exact hj
 |d::css,k+1,j,c,u,hl,h,hj=>by have a:=hl d cn;rw[WQ,WC (by rw[Nat.succ_mul];omega),a,show(k+1)*n+j-n=k*n+j by rw[Nat.succ_mul];omega];exact yka n css k j c u (fun c b=>hl c (by simp[b])) nu hj
def rvc (l:Lc.Loc):List Value:=[tx l.name,tx l.dec,tx l.grp,tx l.list,tx l.minus,.string ⟨#[37]⟩,tx l.cur,.bool l.first,.bool l.space,.int .i64 (l.second:Int)]
def ypZ (w:World):Calls prog 34 #[] w (fun e w'=> ∃ b,e= .returned (.slice (some ⟨b,0,none⟩) 6 6)/\w.heap.size<=b/\Cs w' b (Lc.six.map rvc).flatten /\Below w.heap.size w w'):=by
 go_enter func34,ntmps34
 go_wp2
 go_ret
 exact⟨_,rfl,cm,Cs.new w (Lc.six.map rvc).flatten _,by(repeat(first|exact eN|assumption|refine vh ?_ mY _|refine vc ?_ mY _|refine vr ?_|refine oY ?_ _))⟩
def ydl (l:Lc.Loc): ∀ v ∈ rvc l,v.oneCell'=true:=Cu rfl
attribute [local go_sem ↓] LP yaS We Wy
def yvH {k:Nat} {l:Lc.Loc} (hl:Lc.six[k]? =some l) (c:Int) (t: -9223372036854775808<=c/\c<=9223372036854775807) (Q:Af c=k) (w:World) (hv:Vars w):
 Calls prog 17 #[.int .i64 c] w (fun e w'=> ∃ (b q:Nat) (a sp:Bool),e= .returned (.tuple #[.agg #[tx l.name,tx l.dec,tx l.grp,tx l.list,tx l.minus,.string ⟨#[37]⟩,tx l.cur,.bool a,.bool sp,.slice (some ⟨b,0,none⟩) q q],.agg (rvc l).toArray])/\Below w.heap.size w w'):=by
 have K:=fun w=>yr7 c w t;rw[Q] at K;have M:=fun(W:World) (hW:Below w.heap.size w W)=>ye5 hl (hv.on hW);have hk:k<6:=(o6.1 hl).1
 have L: ∀ (W:World) (b:Nat),Cs W b (Lc.six.map rvc).flatten ->W.rangeAt b (k*10) (rvc l):=fun W b h j v hj=>
  h.get (k*10+j) (yka 10 _ k j _ v (fun c t=>by obtain⟨x,_,rfl⟩:=List.mem_map.1 t;rfl) (by rw[TU,hl];rfl) hj)
 obtain⟨ZG,pZ,ry⟩:=iJ K M L;clear K hv Q t M L hl;go_enter func17,ntmps17
 go_upto_region 3 with (first|(go_at_call 35;refine cY (ZG.out _) ?_)|(go_at_call 34;refine cV (ypZ _) ?_;rintro e d ⟨b,rfl,kG,S,o⟩;have R:Below w.heap.size w d:=yY dt (o.mono pp);have x0:=yis (ry.out d b S) rfl;have P0:Mem d w.heap.size zk 36:=((Mem.new w zk 36).on (ek)).on o;have P1:Mem d (w.heap.size+1) OQ 38:=Mem.on (by have h:=Mem.new (w.alloc (.cells zk.toArray 36)) OQ 38;rw[i7] at h;exact h) o;have cH:=o.size;(try simp only[i7] at cH);have B:=Mem.new d OQ 38;have J:=ybb B rfl (ds:=rvc l) rfl (ydl l);obtain⟨X,m⟩:=bx ((d.alloc (.cells OQ.toArray 38)).setCells d.heap.size 0 (rvc l));rw[<-m] at J;have H:Mem X d.heap.size (rvc l) 38:=(by rw[m];exact B.setCells rfl);have z:Below d.heap.size d X:=(by rw[m];exact mX cm _ _ (ek));have zX:X.heap.size=d.heap.size+1:=(by rw[m,yJ,i7]);have y0:=H.get 0 rfl;have C:=R.trans (z.mono R.size);unfold OQ at J;have MX:=aL H;have Y8:=aL (P0.on z);have Y6:=aL (P1.on z);clear m B H S P0 P1 o z kG)|(go_at_call 23;refine cV (pZ.out _ C) ?_;rintro e g ⟨b2,q,a,sp,rfl,hb2⟩;have D:=C.trans (hb2.mono C.size);have eK:=hb2.size;have A:=Mem.new g zk 36;have I:=WG A rfl (ds:=[tx l.name,tx l.dec,tx l.grp,tx l.list,tx l.minus,.string ⟨#[37]⟩,tx l.cur,.bool a,.bool sp,.slice (some ⟨b2,0,none⟩) q q]) rfl (Cu rfl);obtain⟨Y,y⟩:=bx ((g.alloc (.cells zk.toArray 36)).setCells g.heap.size 0 [tx l.name,tx l.dec,tx l.grp,tx l.list,tx l.minus,.string ⟨#[37]⟩,tx l.cur,.bool a,.bool sp,.slice (some ⟨b2,0,none⟩) q q]);rw[<-y] at I;have U:Mem Y g.heap.size [tx l.name,tx l.dec,tx l.grp,tx l.list,tx l.minus,.string ⟨#[37]⟩,tx l.cur,.bool a,.bool sp,.slice (some ⟨b2,0,none⟩) q q] 36:=(by rw[y];exact A.setCells rfl);have n:Below g.heap.size g Y:=(by rw[y];exact mX cm _ _ (ek));have MY:=aL U;have M4:=aL ((MX.out.on hb2).on n);have Y7:=aL ((Y8.out.on hb2).on n);have Y1:=aL ((Y6.out.on hb2).on n);have N:=aL (D.trans (n.mono D.size));unfold zk at I;clear y A U hb2 n D))
 have i: ∀ V:World,Below Y.heap.size Y V-> ∃ s r G F:World,(Wx (.pointer (some ⟨g.heap.size,0,none⟩))).run prog V= .ok (.agg #[tx l.name,tx l.dec,tx l.grp,tx l.list,tx l.minus,.string ⟨#[37]⟩,tx l.cur,.bool a,.bool sp,.slice (some ⟨b2,0,none⟩) q q]) V/\(Yv (.pointer (some ⟨d.heap.size,0,none⟩))).run prog V= .ok (.agg (rvc l).toArray) V/\
  (MR (.pointer (some ⟨w.heap.size,0,none⟩)) (.agg #[tx l.name,tx l.dec,tx l.grp,tx l.list,tx l.minus,.string ⟨#[37]⟩,tx l.cur,.bool a,.bool sp,.slice (some ⟨b2,0,none⟩) q q])).run prog V= .ok () s/\(To (.pointer (some ⟨w.heap.size+1,0,none⟩)) (.agg (rvc l).toArray)).run prog V= .ok () r/\
  (Yv (.pointer (some ⟨d.heap.size,0,none⟩))).run prog s= .ok (.agg (rvc l).toArray) s/\(To (.pointer (some ⟨w.heap.size+1,0,none⟩)) (.agg (rvc l).toArray)).run prog s= .ok () G/\
  (Wx (.pointer (some ⟨g.heap.size,0,none⟩))).run prog r= .ok (.agg #[tx l.name,tx l.dec,tx l.grp,tx l.list,tx l.minus,.string ⟨#[37]⟩,tx l.cur,.bool a,.bool sp,.slice (some ⟨b2,0,none⟩) q q]) r/\(MR (.pointer (some ⟨w.heap.size,0,none⟩)) (.agg #[tx l.name,tx l.dec,tx l.grp,tx l.list,tx l.minus,.string ⟨#[37]⟩,tx l.cur,.bool a,.bool sp,.slice (some ⟨b2,0,none⟩) q q])).run prog r= .ok () F/\
  ∀ Z,Z=G∨Z=F->Below w.heap.size w Z/\Mem Z w.heap.size [tx l.name,tx l.dec,tx l.grp,tx l.list,tx l.minus,.string ⟨#[37]⟩,tx l.cur,.bool a,.bool sp,.slice (some ⟨b2,0,none⟩) q q] 36/\Mem Z (w.heap.size+1) (rvc l) 38:=by
  intro V hV;have hb:=N.out.trans (hV.mono N.out.size);have T:=MY.out.on hV;have a4:=M4.out.on hV;have a0:=Y7.out.on hV;have E:=Y1.out.on hV;have s1:(rvc l).length =OQ.length:=rfl;have n1:d.heap.size≠w.heap.size:=aG;have n2:g.heap.size≠w.heap.size+1:=aG;have O:=E.setCells_other (show w.heap.size+1≠w.heap.size by omega) [tx l.name,tx l.dec,tx l.grp,tx l.list,tx l.minus,.string ⟨#[37]⟩,tx l.cur,.bool a,.bool sp,.slice (some ⟨b2,0,none⟩) q q] 0;have P:=a0.setCells_other (show w.heap.size≠w.heap.size+1 by omega) (rvc l) 0;refine⟨_,_,_,_,zS T rfl,yhz a4 rfl,WG a0 rfl (ds:=[tx l.name,tx l.dec,tx l.grp,tx l.list,tx l.minus,.string ⟨#[37]⟩,tx l.cur,.bool a,.bool sp,.slice (some ⟨b2,0,none⟩) q q]) rfl (Cu rfl),ybb E rfl (ds:=rvc l) rfl (ydl l),yhz (a4.setCells_other n1 _ 0) rfl,ybb O rfl (ds:=rvc l) rfl (ydl l),zS (T.setCells_other n2 _ 0) rfl,WG P rfl (ds:=[tx l.name,tx l.dec,tx l.grp,tx l.list,tx l.minus,.string ⟨#[37]⟩,tx l.cur,.bool a,.bool sp,.slice (some ⟨b2,0,none⟩) q q]) rfl (Cu rfl),fun Z u=>?_⟩;rcases u with rfl|rfl
  ·exact⟨mX (ls _) _ _ (mX cm _ _ hb),(a0.setCells (us:=[tx l.name,tx l.dec,tx l.grp,tx l.list,tx l.minus,.string ⟨#[37]⟩,tx l.cur,.bool a,.bool sp,.slice (some ⟨b2,0,none⟩) q q]) rfl).setCells_other aG _ 0,O.setCells rfl⟩
  ·exact⟨mX cm _ _ (mX (ls _) _ _ hb),P.setCells rfl,(E.setCells (us:=rvc l) rfl).setCells_other aG _ 0⟩
 obtain⟨s,r,G,F,x1,x2,x3,x4,x5,x6,x7,x8,u⟩:=i Y.drew eN.drew;have HZ:=aL u;clear J I y0 i u;go_region
 all_goals go_wp2
 all_goals obtain⟨ek,cm,eN⟩:=HZ.out _ (by first|exact .inl rfl|exact .inr rfl)
 all_goals
  have f: ∀ q v,_:=fun q v=>cm.get (v:=v) q
  have eb: ∀ q v,_:=fun q v=>eN.get (v:=v) q
  exact eB (v:= .tuple #[.agg #[tx l.name,tx l.dec,tx l.grp,tx l.list,tx l.minus,.string ⟨#[37]⟩,tx l.cur,.bool a,.bool sp,.slice (some ⟨b2,0,none⟩) q q],.agg (rvc l).toArray]) (by simp[results,results17,go_sem,rvc,f 0 _ rfl,f 1 _ rfl,f 2 _ rfl,f 3 _ rfl,f 4 _ rfl,f 5 _ rfl,f 6 _ rfl,f 7 _ rfl,f 8 _ rfl,f 9 _ rfl,eb 0 _ rfl,eb 1 _ rfl,eb 2 _ rfl,eb 3 _ rfl,eb 4 _ rfl,eb 5 _ rfl,eb 6 _ rfl,eb 7 _ rfl,eb 8 _ rfl,eb 9 _ rfl];done) rfl ⟨_,_,_,_,rfl,ek⟩
end

def ypJ: ∀ l ∈ Lc.six,∃ D L:UInt8,l.dec=[D]/\l.list=[L]/\Fx.Lc D L:=by
 intro l hl;simp only[Lc.six,sC,yF,yR] at hl;rcases hl with rfl|rfl|rfl|rfl|rfl|rfl
 all_goals exact⟨_,_,rfl,rfl,by constructor<;>decide⟩
def yrs (D L:UInt8) (w:World) (e:Ending) (w':World):Prop:= ∃ (b:Nat) (n h m l f c g a:ByteArray) (j sp i d:Bool) (k:Nat) (z:Int),
 e= .returned (.tuple #[.agg #[.string n,.string ⟨#[D]⟩,.string h,.string ⟨#[L]⟩,.string m,.string ⟨#[37]⟩,.string l,.bool j,.bool sp,.slice (some ⟨b,0,none⟩) k k],.agg #[.string f,.string ⟨#[D]⟩,.string c,.string ⟨#[L]⟩,.string g,.string ⟨#[37]⟩,.string a,.bool i,.bool d,.int .i64 z]])/\Below w.heap.size w w'
def ycQ (c:Int) (g: -9223372036854775808<=c/\c<=9223372036854775807): ∃ D L,Fx.Lc D L/\ ∀ w,Vars w->Calls prog 17 #[.int .i64 c] w (yrs D L w):=by
 have h:=yqD c;obtain⟨k,f⟩: ∃ k:Nat,Af c=k:=⟨(Af c).toNat,by omega⟩;have d:k<Lc.six.length:=by show k<6;omega
 obtain⟨D,L,l,j,i⟩:=ypJ _ (pK d);refine⟨D,L,i,fun w hv=>(yvH (n9 d) c g f w hv).mono fun e w' ⟨b,q,m,sp,a,hb⟩=>?_⟩;unfold rvc at a;rw[l,j] at a;unfold tx at a;exact⟨b,_,_,_,_,_,_,_,_,m,sp,_,_,q,_,a,hb⟩
end Go.Proofs.YtilbpmimoijfhaaGreatDoor
