/- Formulas: a cell and an area, by the parser (printed by gen/mkk22.py). -/
import Derived.Test.YtilbpmimoijfhaaGreatDoorY39
namespace Go.Proofs.YtilbpmimoijfhaaGreatDoor
set_option linter.all false
set_option maxRecDepth 100000
set_option maxHeartbeats 16000000
open Go.RowKit Go.Proofs.Tryz
section
open Fx (Tr Rs Tk)
attribute [local go_sem ↓] qh qn xy xc
def yry (p g b:Nat) (D L:UInt8) (S:ByteArray) (op:Nat) (l:List UInt8) (hk:(Fx.tok D L l).kind =3) (hc:Lib.hasPrefix (Fx.tok D L l).end' [40]=false) (hb: ¬ (Ce.eY (Fx.tok D L l).text =Fx.qZ∨Ce.eY (Fx.tok D L l).text =Fx.so)) (hx:(Fx.mf (Fx.tok D L l)).2 ≠0):Ba p g b D L S op l:=by
 intro w h;unfold Fx.yZ Fx.word;rw[bv (by rw[hc];decide),bv hb,bT hx];refine LX ?_;intro aH dP mV cA tk aX;rw[<-aX] at hk aH cA hc hb hx ⊢;refine G2 ?_;intro K hK F hF N hN T ce E dB n6;rw[bv n6] at hN;refine IQ ?_;intro bH gY bP dQ R hR;rw[<-hR] at dQ;refine KS ?_;intro dK;refine Ks ?_;intro il kL gL e1 e2 pl bp b0 c0 d0;refine ybu ?_;intro f1 f2 cr gW fd;rw[<-gW] at fd hx;(try rw[<-gW]);obtain⟨⟨c1,c2,c3,c4⟩,x⟩:=cr;unfold MU rv at fd;simp only at fd hx;(try simp only);simp only[eL hx,bv hx] at fd;obtain⟨m,eH,iO,iN,qB,B,v,t,z,y,r,mF,s⟩:=ybU fd b0 c0 d0 dQ gL h bH hF hN bP il aX;clear b0 c0 d0 dQ gL h bH hF hN bP il hK ce dB aX cA aH dP gY dK hR kL hk hc hb e1 e2 hx gW fd;refine D2 ?_;intro n1 n2 n3 n4;go_enter func121,ntmps121
 go_upto_region 5 with (first|(go_at_call 159;refine ycU ?_;intro w1 cq aT dn lA lx lq lj lg lc lL)|(go_at_call 160;refine ybj ?_;intro w2 cC aS dm lz lw lp li lf la lK))
 go_upto_region 8 with (first|(go_at_call 160;refine ybh ?_;intro w3 dc aY dk ly lr lm lh ld kZ lJ))
 go_upto_region 12 with (first|(go_at_call 162;refine cV (m.out _ dc.out) ?_;refine vb ?_;intro w4 jw f o))
 refine yaL ?_;intro Z4 iT cD cR tI pT H4 j';rw[<-j'] at cR ⊢;have A:w.heap.size+1<H4:=aG;obtain⟨d,n,a,c⟩:=jv cD cR tI pT;have q:=cR.1;clear iT j' cD cR tI pT;have u:=xr a.out;have j:=aL a.out.putZero;have i:=aL (f.out.on d.out);go_wp2_with fail
 refine lS results121 es es j.out ?_;exact RetP.bad c.out i.out (ls _) pl
def yoj (p g b:Nat) (D L:UInt8) (S:ByteArray) (op:Nat) (l:List UInt8) (hk:(Fx.tok D L l).kind =3) (hc:Lib.hasPrefix (Fx.tok D L l).end' [40]=false) (hb: ¬ (Ce.eY (Fx.tok D L l).text =Fx.qZ∨Ce.eY (Fx.tok D L l).text =Fx.so)) (hx:(Fx.mf (Fx.tok D L l)).2 =0) (hn: ¬ ((Fx.tok D L (Fx.tok D L l).end').kind =5/\(Fx.tok D L (Fx.tok D L l).end').text =[58])):Ba p g b D L S op l:=by
 intro w h;unfold Fx.yZ Fx.word;rw[bv (by rw[hc];decide),bv hb,bv (by rw[hx];decide),bv hn];refine LX ?_;intro aH dP mV cA tk aX;rw[<-aX] at hk aH cA hc hb hx hn ⊢;refine G2 ?_;intro K hK F hF N hN T ce E dB n6;rw[bv n6] at hN;refine IQ ?_;intro bH gY bP dQ R hR;rw[<-hR] at dQ;refine KS ?_;intro dK;refine Ks ?_;intro il kL gL e1 e2 pl bp b0 c0 d0;refine ybu ?_;intro f1 f2 cr gW fd;rw[<-gW] at fd hx;(try rw[<-gW]);obtain⟨⟨c1,c2,c3,c4⟩,x⟩:=cr;unfold MU rv at fd;simp only at fd hx;(try simp only);have f:x=0:=hx;subst f;simp only[lG,nJ] at fd;obtain⟨i,eH,iO,iN,qB,H,z,v,B,A,s,mF,u⟩:=ybU fd b0 c0 d0 dQ gL h bH hF hN bP il aX;clear b0 c0 d0 dQ gL h bH hF hN bP il hK ce dB aX cA aH dP gY dK hR kL hk hc hb e1 e2 hx gW fd;refine D2 ?_;intro n1 n2 n3 n4;go_enter func121,ntmps121
 go_upto_region 5 with (first|(go_at_call 159;refine ycU ?_;intro w1 cq aT dn lA lx lq lj lg lc lL)|(go_at_call 160;refine ybj ?_;intro w2 cC aS dm lz lw lp li lf la lK))
 go_upto_region 8 with (first|(go_at_call 160;refine ybh ?_;intro w3 dc aY dk ly lr lm lh ld kZ lJ))
 go_upto_region 12 with (first|(go_at_call 162;refine cV (i.out _ dc.out) ?_;refine vb ?_;intro w4 jw o7 m))
 refine yaL ?_;intro Z4 iT cD cR tI pT H4 j';rw[<-j'] at cR ⊢;have G:w.heap.size+1<H4:=aG;obtain⟨od,xX,gc,wT⟩:=jv cD cR tI pT;have lT:=cR.1;clear iT j' cD cR tI pT;refine yfT ?_;intro tC im
 have aX:=K4 (tC.on im) Z4.heap.size [⟨#[58]⟩] 1 rfl bL (fun j hj=>by
  have c:j=0:=Jb;subst c
  exact(Cs.new Z4 [.string ⟨#[58]⟩] 9).2 0 cn) cn
 rw[L2,eL hn] at aX;unfold Am tokV tkv at aX;refine ygd ?_;intro K2 iD F2 kN N2 iU T2 ir E2 jo;rw[<-iD,<-kN,<-iU,<-ir,<-jo] at aX;obtain⟨d,ui⟩:=dY aX im;clear aX im tC iD kN iU ir jo;go_upto_region 15 with (first|(go_at_call 92;refine cV d.out ?_;refine vb ?_;intro w5 nM DO kA))
 refine ycZ ?_;intro Z5 fV dr;have C:Z4.heap.size<w5.heap.size:=yce;refine ydX ?_;intro ga qw fk oR iM nF p8 pW nL nQ Av GS;clear fV dr ga qw fk oR iM nF kA;have r:=pW.out.get 0 rfl;have q:=pW.out.get 1 rfl;have o:=pW.out.get 2 rfl;have n:=pW.out.get 3 rfl;have y:(ve (.pointer (some ⟨w.heap.size+1,0,none⟩)) (.agg #[.int .i64 5,.int .u64 0,.string ⟨#[]⟩,.bool false,.int .i64 0,.int .i64 c1,.int .i64 c2,.bool c3,.bool c4,.int .i64 0,.int .i64 0,.bool false,.bool false,.slice none 0 0])).run prog Z5= .ok () _:=jP p8.out (IsN.of (.mk 5 0 [] false 0 ⟨c1,c2,c3,c4⟩ Ce.zero []) none 0 0);go_wp2_with fail
 refine lS results121 es es (p8.out.put (IsN.of (.mk 5 0 [] false 0 ⟨c1,c2,c3,c4⟩ Ce.zero []) none 0 0)) ?_;exact RetP.leaf (t:= .mk 5 0 [] false 0 ⟨c1,c2,c3,c4⟩ Ce.zero []) rfl nQ.out nL.out (ls _) pl
def yvu (p g b:Nat) (D L:UInt8) (S:ByteArray) (op:Nat) (l:List UInt8) (hk:(Fx.tok D L l).kind =3) (hc:Lib.hasPrefix (Fx.tok D L l).end' [40]=false) (hb: ¬ (Ce.eY (Fx.tok D L l).text =Fx.qZ∨Ce.eY (Fx.tok D L l).text =Fx.so)) (hx:(Fx.mf (Fx.tok D L l)).2 =0) (hn:(Fx.tok D L (Fx.tok D L l).end').kind =5/\(Fx.tok D L (Fx.tok D L l).end').text =[58]) (f:(Fx.tok D L (Fx.tok D L (Fx.tok D L l).end').end').kind ≠3∨Ce.eY (Fx.tok D L (Fx.tok D L (Fx.tok D L l).end').end').text =Fx.qZ∨Ce.eY (Fx.tok D L (Fx.tok D L (Fx.tok D L l).end').end').text =Fx.so∨Lib.hasPrefix (Fx.tok D L (Fx.tok D L (Fx.tok D L l).end').end').end' [40]=true):Ba p g b D L S op l:=by
 intro w h;unfold Fx.yZ Fx.word;rw[bv (by rw[hc];decide),bv hb,bv (by rw[hx];decide),bT hn];simp only[];rw[bT f];unfold Fx.no;refine LX ?_;intro aH dP mV cA tk aX;rw[<-aX] at hk aH cA hc hb hx hn f ⊢;refine G2 ?_;intro K hK F hF N hN T ce E dB n6;rw[bv n6] at hN;refine IQ ?_;intro bH gY bP dQ R hR;rw[<-hR] at dQ;refine KS ?_;intro dK;refine Ks ?_;intro il kL gL e1 e2 pl bp b0 c0 d0;refine ybu ?_;intro f1 f2 cr gW fd;rw[<-gW] at fd hx;(try rw[<-gW]);obtain⟨⟨c1,c2,c3,c4⟩,x⟩:=cr;unfold MU rv at fd;simp only at fd hx;(try simp only);have A:x=0:=hx;subst A;simp only[lG,nJ] at fd;obtain⟨B,Pv⟩:=dY fd f;have G:=hn;obtain⟨eH,iO,iN,qB,Ae,V,U,Y,X,P,mF,Q⟩:=ybi b0 c0 d0 dQ gL h bH hF hN bP il aX;clear b0 c0 d0 dQ gL h bH hF hN bP il hK ce dB aX cA aH dP gY dK hR kL hk hc hb e1 e2 hx gW fd f G;refine D2 ?_;intro n1 n2 n3 n4;go_enter func121,ntmps121
 go_upto_region 5 with (first|(go_at_call 159;refine ycU ?_;intro w1 cq aT dn lA lx lq lj lg lc lL)|(go_at_call 160;refine ybj ?_;intro w2 cC aS dm lz lw lp li lf la lK))
 go_upto_region 8 with (first|(go_at_call 160;refine ybh ?_;intro w3 dc aY dk ly lr lm lh ld kZ lJ))
 go_upto_region 12 with (first|(go_at_call 162;refine cV (B.out _ dc.out) ?_;refine vb ?_;intro w4 jw o7 M))
 refine yaL ?_;intro Z4 iT cD cR tI pT H4 j';rw[<-j'] at cR ⊢;have BH:w.heap.size+1<H4:=aG;obtain⟨od,xX,gc,wT⟩:=jv cD cR tI pT;have lT:=cR.1;clear iT j' cD cR tI pT;refine yfT ?_;intro tC im
 have aX:=K4 (tC.on im) Z4.heap.size [⟨#[58]⟩] 1 rfl bL (fun j hj=>by
  have y:j=0:=Jb;subst y
  exact(Cs.new Z4 [.string ⟨#[58]⟩] 9).2 0 cn) cn
 rw[L2,fv hn] at aX;unfold Am tokV tkv at aX;refine ygd ?_;intro K2 iD F2 kN N2 iU T2 ir E2 jo;rw[<-iD,<-kN,<-iU,<-ir,<-jo] at aX;obtain⟨z,ui⟩:=dY aX im;clear aX im tC iD kN iU ir jo;go_upto_region 15 with (first|(go_at_call 92;refine cV z.out ?_;refine vb ?_;intro w5 nM DO kA))
 refine ycZ ?_;intro Z5 fV dr;have Z:Z4.heap.size<w5.heap.size:=yce;refine ydX ?_;intro ga qw fk oR iM nF p8 pW nL nQ Av GS;clear fV dr ga qw fk oR iM nF kA;refine ykN ?_;intro iM uI r9 r8 CS mV u hu;rw[<-hu] at r9 r8 uI;unfold tokV tkv at r9;refine yg4 ?_;intro K3 tH F3 qv N3 kr T3 tu E3 wi;rw[<-tH,<-qv,<-kr,<-tu,<-wi] at r9;have n:T3.data.toList=u.text:=by rw[tu]
 have J:T3.size<=1000:=by rw[<-dN,n];omega
 have d:=fun W=>yef T3 W aG;rw[n] at d;obtain⟨R3,CH⟩:=bx (⟨(Ce.eY u.text).toArray⟩:ByteArray);rw[<-CH] at d;refine yjR ?_;intro oS g1 g2 iQ
 have v:(K3 != 3)=true∨((K3 != 3)=false/\(R3.toList==[84,82,85,69])=true)∨((K3 != 3)=false/\(R3.toList==[84,82,85,69])=false/\(R3.toList==[70,65,76,83,69])=true)∨((K3 != 3)=false/\(R3.toList==[84,82,85,69])=false/\(R3.toList==[70,65,76,83,69])=false/\Lib.hasPrefix u.end' [40]=true/\N3=((S.size-u.end'.length:Nat):Int)):=by
  by_cases r:u.kind=3
  ·have a:(K3 != 3)=false:=by rw[tH,r];rfl
   by_cases i:Ce.eY u.text=Fx.qZ
   ·exact .inr (.inl ⟨a,by rw[g1,fv i]⟩)
   ·by_cases o:Ce.eY u.text=Fx.so
    ·exact .inr (.inr (.inl ⟨a,by rw[g1,eL i],by rw[g2,fv o]⟩))
    ·refine .inr (.inr (.inr ⟨a,by rw[g1,eL i],by rw[g2,eL o],?_,by rw[kr,bv aG]⟩));rcases uI with c|c|c|c
     ·exact absurd r c
     ·exact absurd c i
     ·exact absurd c o
     ·exact c
  ·exact .inl (by rw[rZ,tH];omega)
 obtain⟨I,H,qA,t⟩:=jv iQ r9 d iM;have O: ¬ H4=p:=aG;clear r9 d iM r8 CS mV tH qv kr tu wi n J CH oS g1 g2 iQ uI hu;go_upto_region 18 with (first|(go_at_call 41;refine cp H.out ?_;intro w6 gO))
 refine yiZ ?_;intro Z6 oO cU sY H6 IS Kr;rw[<-IS] at cU ⊢;obtain⟨fN,lO⟩:=dY sY cU;have u0:=cU.get 0 rfl;have u1:=cU.get 1 rfl;have u2:=cU.get 2 rfl;have u3:=cU.get 3 rfl;have u4:=cU.get 4 rfl;have ul:=cU.1;clear oO IS gO sY cU;have iX:=aL (fun W (hb:Below Z5.heap.size Z5 W)=>Yq (t.out.on hb));have qw:=p8.out;have n7: ¬ w.heap.size+1=p:=aG;rcases v with q|⟨q,s⟩|⟨q,s,C⟩|⟨q,s,C,a4,a5⟩
 ·go_wp2_with (first|(go_at_call 159;refine Ww ?_;intro v1 dw bG u0 u1 u2 u3 u4 ul)|(go_at_call 42;refine ydw ?_;intro v4 ko dg dy o8 mC))
  exact yeZ
 ·go_wp2_with (first|(go_at_call 159;refine Ww ?_;intro v1 dw bG u0 u1 u2 u3 u4 ul)|(go_at_call 42;refine ydw ?_;intro v4 ko dg dy o8 mC))
  exact yeZ
 ·go_wp2_with (first|(go_at_call 159;refine Ww ?_;intro v1 dw bG u0 u1 u2 u3 u4 ul)|(go_at_call 42;refine ydw ?_;intro v4 ko dg dy o8 mC))
  exact yeZ
 ·have m:=fun W (hb:Below Z5.heap.size Z5 W)=>ydq (t.out.on hb) K3 N3 E3 F3 T3 I.out a5;rw[a4] at m;have DY:=aL m;clear m a5;go_wp2_with (first|(go_at_call 159;refine Ww ?_;intro v1 dw bG u0 u1 u2 u3 u4 ul)|(go_at_call 160;refine ylN ?_;intro v2 ki eF u0 u1 u2 u3 u4 ul)|(go_at_call 42;refine cV (iX.out _ ki.out) ?_;rintro e v4 ⟨rfl,cj,eO⟩;have aw:=ki.out;have ko:=aw.size;have ct:=(p8.out.on aw).of (cj.block (w.heap.size+1) n7 aG);have dg:=xr ct;have dy:=aL ct.putZero;obtain⟨o8,mC⟩:=dY cj eO;clear cj eO ct aw))
  refine lS results121 es es dy.out ?_;exact RetP.bad (((nQ.out.trans (Two.of ki.out))).trans (Two.onl o8.out)) mC.out (ls _) pl
def yuR (p g b:Nat) (D L:UInt8) (S:ByteArray) (op:Nat) (l:List UInt8) (hk:(Fx.tok D L l).kind =3) (hc:Lib.hasPrefix (Fx.tok D L l).end' [40]=false) (hb: ¬ (Ce.eY (Fx.tok D L l).text =Fx.qZ∨Ce.eY (Fx.tok D L l).text =Fx.so)) (hx:(Fx.mf (Fx.tok D L l)).2 =0) (hn:(Fx.tok D L (Fx.tok D L l).end').kind =5/\(Fx.tok D L (Fx.tok D L l).end').text =[58]) (A: ¬ ((Fx.tok D L (Fx.tok D L (Fx.tok D L l).end').end').kind ≠3∨Ce.eY (Fx.tok D L (Fx.tok D L (Fx.tok D L l).end').end').text =Fx.qZ∨Ce.eY (Fx.tok D L (Fx.tok D L (Fx.tok D L l).end').end').text =Fx.so∨Lib.hasPrefix (Fx.tok D L (Fx.tok D L (Fx.tok D L l).end').end').end' [40]=true)):Ba p g b D L S op l:=by
 intro w h;unfold Fx.yZ Fx.word;rw[bv (by rw[hc];decide),bv hb,bv (by rw[hx];decide),bT hn];simp only[];rw[bv A];refine LX ?_;intro aH dP mV cA tk aX;rw[<-aX] at hk aH cA hc hb hx hn A ⊢;refine G2 ?_;intro K hK F hF N hN T ce E dB n6;rw[bv n6] at hN;refine IQ ?_;intro bH gY bP dQ R hR;rw[<-hR] at dQ;refine KS ?_;intro dK;refine Ks ?_;intro il kL gL e1 e2 pl bp b0 c0 d0;refine ybu ?_;intro f1 f2 cr gW fd;rw[<-gW] at fd hx;(try rw[<-gW]);obtain⟨⟨c1,c2,c3,c4⟩,x⟩:=cr;unfold MU rv at fd;simp only at fd hx;(try simp only);have jc:x=0:=hx;subst jc;simp only[lG,nJ] at fd;have bc:=aL fd;obtain⟨r,d⟩:=bx ((if(Fx.mf (Fx.tok D L (Fx.tok D L tk.end').end')).2 ≠0 then Rs.er (Fx.mf (Fx.tok D L (Fx.tok D L tk.end').end')).2 (Fx.tok D L (Fx.tok D L tk.end').end').at' else Rs.ok (.mk 6 0 [] false 0 ⟨c1,c2,c3,c4⟩ (Fx.mf (Fx.tok D L (Fx.tok D L tk.end').end')).1 []) (Fx.tok D L (Fx.tok D L tk.end').end').end'));rw[<-d];obtain⟨HR,Pv⟩:=dY d A;clear d;obtain⟨eH,iO,iN,qB,Ae,HP,iF,HF,HN,lP,mF,ib⟩:=ybi b0 c0 d0 dQ gL h bH hF hN bP il aX;clear b0 c0 d0 dQ gL h bH hF hN bP il hK ce dB aX cA aH dP gY dK hR kL hk hc hb e1 e2 hx gW fd A;refine D2 ?_;intro n1 n2 n3 n4;go_enter func121,ntmps121
 go_upto_region 5 with (first|(go_at_call 159;refine ycU ?_;intro w1 cq aT dn lA lx lq lj lg lc lL)|(go_at_call 160;refine ybj ?_;intro w2 cC aS dm lz lw lp li lf la lK))
 go_upto_region 8 with (first|(go_at_call 160;refine ybh ?_;intro w3 dc aY dk ly lr lm lh ld kZ lJ))
 go_upto_region 12 with (first|(go_at_call 162;refine cV (bc.out _ dc.out) ?_;refine vb ?_;intro w4 jw o7 uj))
 refine yaL ?_;intro Z4 iT cD cR tI pT H4 j';rw[<-j'] at cR ⊢;have BH:w.heap.size+1<H4:=aG;obtain⟨od,xX,gc,wT⟩:=jv cD cR tI pT;have lT:=cR.1;clear iT j' cD cR tI pT;refine yfT ?_;intro tC im
 have aX:=K4 (tC.on im) Z4.heap.size [⟨#[58]⟩] 1 rfl bL (fun j hj=>by
  have mj:j=0:=Jb;subst mj
  exact(Cs.new Z4 [.string ⟨#[58]⟩] 9).2 0 cn) cn
 rw[L2,fv hn] at aX;unfold Am tokV tkv at aX;refine ygd ?_;intro K2 iD F2 kN N2 iU T2 ir E2 jo;rw[<-iD,<-kN,<-iU,<-ir,<-jo] at aX;obtain⟨ke,ui⟩:=dY aX im;clear aX im tC iD kN iU ir jo;go_upto_region 15 with (first|(go_at_call 92;refine cV ke.out ?_;refine vb ?_;intro w5 nM DO kA))
 refine ycZ ?_;intro Z5 fV dr;have Em:Z4.heap.size<w5.heap.size:=yce;refine ydX ?_;intro ga qw fk oR iM nF p8 pW nL nQ Av GS;clear fV dr ga qw fk oR iM nF kA;refine ykN ?_;intro iM uI r9 r8 CS mV u hu;rw[<-hu] at r9 r8 uI;unfold tokV tkv at r9;refine yg4 ?_;intro K3 tH F3 qv N3 kr T3 tu E3 wi;rw[<-tH,<-qv,<-kr,<-tu,<-wi] at r9;have C:T3.data.toList=u.text:=by rw[tu]
 have Cy:T3.size<=1000:=by rw[<-dN,C];omega
 have B:=fun W=>yef T3 W aG;rw[C] at B;obtain⟨R3,CH⟩:=bx (⟨(Ce.eY u.text).toArray⟩:ByteArray);rw[<-CH] at B;refine yjR ?_;intro oS g1 g2 iQ;have X:u.kind=3:=Decidable.byContradiction fun e=>uI (.inl e);have a1:(K3 != 3)=false:=by rw[tH,X];rfl
 have a2:(R3.toList==[84,82,85,69])=false:=by rw[g1,B7];exact fun e=>uI (.inr (.inl e))
 have a3:(R3.toList==[70,65,76,83,69])=false:=by rw[g2,B7];exact fun e=>uI (.inr (.inr (.inl e)))
 have a4:Lib.hasPrefix u.end' [40]=false:=by
  cases e:Lib.hasPrefix u.end' [40] with
  |false=>rfl
  |true=>exact absurd (Or.inr (Or.inr (Or.inr e))) uI
 rw[bv aG] at kr;have O:=fun W (hb:Below Z5.heap.size Z5 W)=>ydq (iM.on hb) K3 N3 E3 F3 T3 iQ kr;rw[a4] at O;have o:=fun W (hb:Below Z5.heap.size Z5 W)=>yha (iM.on hb) K3 N3 E3 F3 T3 u C aG u.at' u.end' qv kr iQ;have d:=HR.out;rw[<-hu] at d;obtain⟨cv,KE⟩:=bx (Fx.mf u);rw[<-KE] at o d;obtain⟨⟨n,m,i,f⟩,y⟩:=cv;unfold MU rv at o;simp only at o d;obtain⟨I,U⟩:=bx (decide (y=0));rw[<-U] at o;obtain⟨DY,QC,V,Jy,Pz,qA,DN⟩:=zo O o d U r9 B iM;have n5: ¬ H4=p:=aG;clear r9 B iM r8 CS mV tH qv kr tu wi C Cy CH oS g1 g2 iQ uI hu X O o d KE U a4;go_upto_region 18 with (first|(go_at_call 41;refine cp Pz.out ?_;intro w6 gO))
 refine yiZ ?_;intro Z6 oO cU sY H6 IS Kr;rw[<-IS] at cU ⊢;obtain⟨fN,lO⟩:=dY sY cU;have u0:=cU.get 0 rfl;have u1:=cU.get 1 rfl;have u2:=cU.get 2 rfl;have u3:=cU.get 3 rfl;have u4:=cU.get 4 rfl;have ul:=cU.1;clear oO IS gO sY cU;have qw:=p8.out;have n7: ¬ w.heap.size+1=p:=aG;go_upto_region 22 with (first|(go_at_call 159;refine Ww ?_;intro v1 dw bG u0 u1 u2 u3 u4 ul)|(go_at_call 160;refine ylN ?_;intro v2 ki eF u0 u1 u2 u3 u4 ul)|(go_at_call 162;refine cV (QC.out _ ki.out) ?_;refine vb ?_;intro s Jz Uq VN))
 obtain⟨c,G⟩:=bx (s.alloc (Obj.cells #[.int .i64 n,.int .i64 m,.bool i,.bool f] 24));have M:Below s.heap.size s c:=by rw[G];exact ek
 have v:Cs c s.heap.size [.int .i64 n,.int .i64 m,.bool i,.bool f]:=by rw[G];exact Cs.new s _ _
 have hsv:=ki.out.size;have H:Two p b Z5 c:=((Two.of ki.out).trans (Two.onl Jz.out)).trans (Two.of M);have Q:Nd c (w.heap.size+1) znv:=p8.out.two H aG aG;have z:c.heap[H4]? =Z5.heap[H4]? :=H.block H4 aG aG Av;have r0:c.cell? ⟨H4,0,none⟩=_:=(sf (a:=⟨H4,0,none⟩) z).trans (pW.out.get 0 rfl);have r1:c.cell? ⟨H4,1,none⟩=_:=(sf (a:=⟨H4,1,none⟩) z).trans (pW.out.get 1 rfl);have r2:c.cell? ⟨H4,2,none⟩=_:=(sf (a:=⟨H4,2,none⟩) z).trans (pW.out.get 2 rfl);have r3:c.cell? ⟨H4,3,none⟩=_:=(sf (a:=⟨H4,3,none⟩) z).trans (pW.out.get 3 rfl);have v0':=v.get 0 rfl;have v1':=v.get 1 rfl;have v2':=v.get 2 rfl;have v3':=v.get 3 rfl;have dg:(ve (.pointer (some ⟨w.heap.size+1,0,none⟩)) (.agg #[.int .i64 6,.int .u64 0,.string ⟨#[]⟩,.bool false,.int .i64 0,.int .i64 c1,.int .i64 c2,.bool c3,.bool c4,.int .i64 n,.int .i64 m,.bool i,.bool f,.slice none 0 0])).run prog c= .ok () _:=jP Q (IsN.of (.mk 6 0 [] false 0 ⟨c1,c2,c3,c4⟩ ⟨n,m,i,f⟩ []) none 0 0);have Qz:=aL (Q.put (IsN.of (.mk 6 0 [] false 0 ⟨c1,c2,c3,c4⟩ ⟨n,m,i,f⟩ []) none 0 0));have Z:=aL (nQ.out.trans H);have Y:=aL M;rw[<-G];clear G M v H Q z;go_wp2_with fail
 refine lS results121 es es Qz.out ?_;have J:=Uq.out;by_cases q:y=0
 ·have P:I=true:=by rw[Jy.out,q];rfl
  rw[bT q] at J;rw[V.out,bv (by rw[q];decide)];refine RetP.of (r:= .ok (.mk 6 0 [] false 0 ⟨c1,c2,c3,c4⟩ ⟨n,m,i,f⟩ []) u.end') (t:= .mk 6 0 [] false 0 ⟨c1,c2,c3,c4⟩ ⟨n,m,i,f⟩ []) (TreeX.leaf _ rfl) (fun k h=>h.elim) Z.out ⟨rfl,J.on Y.out⟩ (ls _) pl (by show Value.bool I=Value.bool true;rw[P])
 ·have P:I=false:=by rw[Jy.out,eL q]
  rw[bv q] at J;rw[V.out,bT q];exact RetP.of (r:= .er y u.at') (t:= .mk 6 0 [] false 0 ⟨c1,c2,c3,c4⟩ ⟨n,m,i,f⟩ []) (TreeX.leaf _ rfl) (fun k h=>h.elim) Z.out (J.on Y.out) (ls _) pl (by show Value.bool I=Value.bool false;rw[P])
end
end Go.Proofs.YtilbpmimoijfhaaGreatDoor
