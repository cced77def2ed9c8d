/- Formulas: what begins with a word, by the parser (printed by gen/mkk21.py). -/
import Derived.Test.YtilbpmimoijfhaaGreatDoorY35
namespace Go.Proofs.YtilbpmimoijfhaaGreatDoor
set_option linter.all false
set_option maxRecDepth 100000
set_option maxHeartbeats 16000000
open Go.RowKit Go.Proofs.Tryz
section
open Fx (Tr Rs Tk)
attribute [local go_sem ↓] qh qn xy xc
def ypc (p g b:Nat) (D L:UInt8) (S:ByteArray) (op:Nat) (l:List UInt8) (hk:(Fx.tok D L l).kind =3) (hc:Lib.hasPrefix (Fx.tok D L l).end' [40]=true) (f:Fx.oF (Ce.eY (Fx.tok D L l).text)=false):Ba p g b D L S op l:=by
 intro w h;unfold Fx.yZ;rw[bT hc,bv (by rw[f];decide)];refine LX ?_;intro aH dP mV cA tk aX;rw[<-aX] at hk aH cA hc f ⊢;refine G2 ?_;intro K hK F hF N hN T ce E dB n6;rw[bv n6] at hN;refine IQ ?_;intro bH gY bP dQ R hR;rw[<-hR] at dQ;refine KS ?_;intro dK;refine Ks ?_;intro il kL gL e1 e2 pl bp b0 c0 d0;rw[f] at gL;obtain⟨t,I,J,B,U,P,iF,Q,HN,lP,G,ib⟩:=ybi b0 c0 d0 dQ gL h bH hF hN bP il aX;clear b0 c0 d0 dQ gL h bH hF hN bP il hK ce dB aX cA aH dP gY dK hR kL hk hc f e1 e2;refine D2 ?_;intro n1 n2 n3 n4;go_enter func121,ntmps121
 have f12:(R.toList==[84,82,85,69])=true∨((R.toList==[84,82,85,69])=false/\(R.toList==[70,65,76,83,69])=true)∨((R.toList==[84,82,85,69])=false/\(R.toList==[70,65,76,83,69])=false):=by cases (R.toList==[84,82,85,69])<;>cases (R.toList==[70,65,76,83,69])<;>simp
 rcases f12 with r|⟨r,M⟩|⟨r,M⟩
 all_goals
  go_upto_region 4 with (first|(go_at_call 159;refine cp (B.out _) ?_;intro X j;have o:=aL (t.out.trans (j.mono t.out.size));have a:=aL (I.out.on j);have u:=aL (J.out.on j);have lA:=a.out.1.get 0 rfl;have lx:=a.out.1.get 1 rfl;have lq:=a.out.1.get 2 rfl;have lj:=a.out.1.get 3 rfl;have lg:=a.out.1.get 4 rfl;have lc:=a.out.1.1;have lL:=u.out.lt;clear j)|(go_at_call 160;refine cp (G.out _ o.out) ?_;intro V m;have z:=aL (o.out.trans (m.mono o.out.size));have c:=aL (a.out.on m);have v:=aL (u.out.on m);have Y:=c.out.1.get 0 rfl;have lw:=c.out.1.get 1 rfl;have lp:=c.out.1.get 2 rfl;have li:=c.out.1.get 3 rfl;have lf:=c.out.1.get 4 rfl;have la:=c.out.1.1;have lK:=v.out.lt;clear m)|(go_at_call 70;refine cp (U.out _) ?_;intro w3 i;have y:=aL (z.out.trans (i.mono z.out.size));have d:=aL (c.out.on i);have x:=aL (v.out.on i);have Z:=d.out.1.get 0 rfl;have lr:=d.out.1.get 1 rfl;have lm:=d.out.1.get 2 rfl;have lh:=d.out.1.get 3 rfl;have ld:=d.out.1.get 4 rfl;have kZ:=d.out.1.1;have lJ:=x.out.lt;clear i))
  have A:=aL (yb1 (P.out.on y.out) 8 F tk.at' Q.out)
  go_wp2_with (first|(go_at_call 67;refine cV A.out ?_;rintro e v4 ⟨rfl,q,s⟩;have n:=x.out.of (q.block (w.heap.size+1) aG aG);have dg:=xr n;have O:=aL n.putZero;obtain⟨H,C⟩:=dY q s;clear q s n))
  refine lS results121 es es O.out ?_
  exact RetP.bad ((Two.of y.out).trans (Two.onl H.out)) C.out (ls _) pl
def ynQ (p g b:Nat) (D L:UInt8) (S:ByteArray) (op:Nat) (l:List UInt8) (hk:(Fx.tok D L l).kind =3) (hc:Lib.hasPrefix (Fx.tok D L l).end' [40]=true) (j:Fx.oF (Ce.eY (Fx.tok D L l).text)=true) (u:ybt p g b D L S op (Fx.tok D L l).end'):Ba p g b D L S op l:=by
 intro w h;unfold Fx.yZ;rw[bT hc,bT j];refine LX ?_;intro aH dP mV cA tk aX;rw[<-aX] at hk aH cA hc j u ⊢;refine G2 ?_;intro K hK F hF N hN T ce E dB n6;rw[bv n6] at hN;refine IQ ?_;intro bH gY bP dQ R hR;rw[<-hR] at dQ;refine KS ?_;intro dK;refine Ks ?_;intro il kL gL e1 e2 pl bp b0 c0 d0;rw[j] at gL;have n:=fun W hW=>u R W hW;rw[dK] at n;obtain⟨r,G⟩:=bx (Fx.Hc D L op (Ce.eY tk.text) tk.end');rw[<-G] at n ⊢;obtain⟨QB,O,iO,iN,qB,Ae,HP,iF,HF,HN,lP,C,ib⟩:=ybU n b0 c0 d0 dQ gL h bH hF hN bP il aX;clear b0 c0 d0 dQ gL h bH hF hN bP il hK ce dB aX cA aH dP gY dK hR kL hk hc j n u G e1 e2;refine D2 ?_;intro n1 n2 n3 n4;go_enter func121,ntmps121
 have f12:(R.toList==[84,82,85,69])=true∨((R.toList==[84,82,85,69])=false/\(R.toList==[70,65,76,83,69])=true)∨((R.toList==[84,82,85,69])=false/\(R.toList==[70,65,76,83,69])=false):=by cases (R.toList==[84,82,85,69])<;>cases (R.toList==[70,65,76,83,69])<;>simp
 rcases f12 with M|⟨M,f2⟩|⟨M,f2⟩
 all_goals
  go_upto_region 5 with (first|(go_at_call 159;refine cp (qB.out _) ?_;intro w1 s;have y:=aL (O.out.trans (s.mono O.out.size));have c:=aL (iO.out.on s);have P:=aL (iN.out.on s);have lA:=c.out.1.get 0 rfl;have lx:=c.out.1.get 1 rfl;have lq:=c.out.1.get 2 rfl;have lj:=c.out.1.get 3 rfl;have lg:=c.out.1.get 4 rfl;have lc:=c.out.1.1;have lL:=P.out.lt;clear s)|(go_at_call 160;refine cp (C.out _ y.out) ?_;intro w2 t;have V:=aL (y.out.trans (t.mono y.out.size));have d:=aL (c.out.on t);have Q:=aL (P.out.on t);have lz:=d.out.1.get 0 rfl;have lw:=d.out.1.get 1 rfl;have lp:=d.out.1.get 2 rfl;have li:=d.out.1.get 3 rfl;have lf:=d.out.1.get 4 rfl;have la:=d.out.1.1;have lK:=Q.out.lt;clear t)|(go_at_call 70;refine cp (Ae.out _) ?_;intro w3 q;have x:=aL (V.out.trans (q.mono V.out.size));have a:=aL (d.out.on q);have U:=aL (Q.out.on q);have ly:=a.out.1.get 0 rfl;have lr:=a.out.1.get 1 rfl;have lm:=a.out.1.get 2 rfl;have lh:=a.out.1.get 3 rfl;have ld:=a.out.1.get 4 rfl;have kZ:=a.out.1.1;have lJ:=U.out.lt;clear q))
  go_upto_region 6 with (first|(go_at_call 160;refine cp (C.out _ x.out) ?_;intro w4 m;have Y:=aL (x.out.trans (m.mono x.out.size));have f:=aL (a.out.on m);have Z:=aL (U.out.on m);have QU:=f.out.1.get 0 rfl;have QT:=f.out.1.get 1 rfl;have QS:=f.out.1.get 2 rfl;have QR:=f.out.1.get 3 rfl;have QQ:=f.out.1.get 4 rfl;have QO:=f.out.1.1;have TR:=Z.out.lt;clear m))
  have i:=HP.out.on Y.out
  have p2:=i.mem.get 2 rfl
  have pf:=i.mem.frozen 2
  have pz:=i.mem.lt
  have H:=i.past (N:=N) lP.out HN.out
  have fR:=aL H
  have B:Nd (w4.setCell ⟨p,2,none⟩ (.int .i64 N)) (w.heap.size+1) znv:=Z.out.of (tF _ _ _ _ (by show ¬ w.heap.size+1=p;omega))
  have E8:=aL B
  have kY:=aL (show Two p b w (w4.setCell ⟨p,2,none⟩ (.int .i64 N)) from(Two.of Y.out).setL 2 _)
  clear i H B
  go_wp2_with (first|(go_at_call 161;refine cV (QB.out _ fR.out) ?_;rintro e w5 ⟨X1,t1,rfl,v,o,I⟩;have z:=E8.out.two o aG aG;obtain⟨cs,X⟩:=v.isN;have dg:=jP z X;obtain⟨hT,hL,h2⟩:=iJ v I o;have wV:=aL (z.put X);have cH:=o.size;(try rw[rX] at cH);clear v I o z))
  refine lS results121 es es wV.out ?_
  obtain⟨A,gi,J⟩:=hT.out
  rw[rX] at J
  refine RetP.of gi (fun k hk=>?_) (kY.out.trans h2.out) hL.out (ls _) pl rfl
  have:=J k hk
  exact⟨by omega,by omega,by omega⟩
def yps (p g b:Nat) (D L:UInt8) (S:ByteArray) (op:Nat) (l:List UInt8) (hk:(Fx.tok D L l).kind =3) (hc:Lib.hasPrefix (Fx.tok D L l).end' [40]=false) (hb:Ce.eY (Fx.tok D L l).text =Fx.qZ∨Ce.eY (Fx.tok D L l).text =Fx.so):Ba p g b D L S op l:=by
 intro w h;unfold Fx.yZ Fx.word;rw[bv (by rw[hc];decide),bT hb];refine LX ?_;intro aH dP mV cA tk aX;rw[<-aX] at hk aH cA hc hb ⊢;refine G2 ?_;intro K hK F hF N hN T ce E dB n6;rw[bv n6] at hN;refine IQ ?_;intro bH gY bP dQ R hR;rw[<-hR] at dQ;refine KS ?_;intro dK;refine Ks ?_;intro il kL gL e1 e2 pl bp b0 c0 d0;obtain⟨tb,r⟩:=bx (decide (Ce.eY tk.text=Fx.qZ));rw[<-r] at e1 ⊢
 have M:((R.toList==[84,82,85,69])=true/\tb=true)∨((R.toList==[84,82,85,69])=false/\(R.toList==[70,65,76,83,69])=true/\tb=false):=by
  cases a:tb with
  |true=>exact .inl ⟨by rw[e1,a],rfl⟩
  |false=>
   refine .inr ⟨by rw[e1,a],?_,rfl⟩
   rw[e2,kF]
   rcases hb with hb|hb
   ·rw[r,B7] at a;exact absurd hb a
   ·exact hb
 obtain⟨y,I,J,G,Ae,Q,iF,HF,U,H,u,ib⟩:=ybi b0 c0 d0 dQ gL h bH hF hN bP il aX;clear b0 c0 d0 dQ gL h bH hF hN bP il hK ce dB aX cA aH dP gY dK hR kL hk hc hb r e1 e2;refine D2 ?_;intro n1 n2 n3 n4;go_enter func121,ntmps121
 rcases M with ⟨O,rfl⟩|⟨O,f2,rfl⟩
 all_goals
  go_upto_region 5 with (first|(go_at_call 159;refine cp (G.out _) ?_;intro X j;have o:=aL (y.out.trans (j.mono y.out.size));have c:=aL (I.out.on j);have z:=aL (J.out.on j);have lA:=c.out.1.get 0 rfl;have lx:=c.out.1.get 1 rfl;have lq:=c.out.1.get 2 rfl;have lj:=c.out.1.get 3 rfl;have lg:=c.out.1.get 4 rfl;have lc:=c.out.1.1;have lL:=z.out.lt;clear j)|(go_at_call 160;refine cp (u.out _ o.out) ?_;intro V m;have q:=aL (o.out.trans (m.mono o.out.size));have d:=aL (c.out.on m);have A:=aL (z.out.on m);have lz:=d.out.1.get 0 rfl;have lw:=d.out.1.get 1 rfl;have lp:=d.out.1.get 2 rfl;have li:=d.out.1.get 3 rfl;have lf:=d.out.1.get 4 rfl;have la:=d.out.1.1;have lK:=A.out.lt;clear m))
  go_upto_region 8 with (first|(go_at_call 160;refine cp (u.out _ q.out) ?_;intro w3 i;have C:=aL (q.out.trans (i.mono q.out.size));have e:=aL (d.out.on i);have B:=aL (A.out.on i);have ly:=e.out.1.get 0 rfl;have lr:=e.out.1.get 1 rfl;have lm:=e.out.1.get 2 rfl;have lh:=e.out.1.get 3 rfl;have ld:=e.out.1.get 4 rfl;have kZ:=e.out.1.1;have lJ:=B.out.lt;clear i))
  have f:=Q.out.on C.out
  have p2:=f.mem.get 2 rfl
  have Z:=f.mem.frozen 2
  have Y:=f.mem.lt
  have x:=aL (f.past (N:=N) H.out U.out)
  have s:Nd (w3.setCell ⟨p,2,none⟩ (.int .i64 N)) (w.heap.size+1) znv:=B.out.of (tF _ _ _ _ (by show ¬ w.heap.size+1=p;omega))
  have n:=aL s
  have v:=aL (show Two p b w (w3.setCell ⟨p,2,none⟩ (.int .i64 N)) from(Two.of C.out).setL 2 _)
  clear f s
 ·have P:(ve (.pointer (some ⟨w.heap.size+1,0,none⟩)) (.agg #[.int .i64 3,.int .u64 0,.string ⟨#[]⟩,.bool true,.int .i64 0,.int .i64 0,.int .i64 0,.bool false,.bool false,.int .i64 0,.int .i64 0,.bool false,.bool false,.slice none 0 0])).run prog _= .ok () _:=jP n.out (IsN.of (.mk 3 0 [] true 0 Ce.zero Ce.zero []) none 0 0);go_wp2_with fail
  refine lS results121 es es (n.out.put (IsN.of (.mk 3 0 [] true 0 Ce.zero Ce.zero []) none 0 0)) ?_;exact RetP.leaf (t:= .mk 3 0 [] true 0 Ce.zero Ce.zero []) rfl v.out x.out (ls _) pl
 ·have P:(ve (.pointer (some ⟨w.heap.size+1,0,none⟩)) (.agg #[.int .i64 3,.int .u64 0,.string ⟨#[]⟩,.bool false,.int .i64 0,.int .i64 0,.int .i64 0,.bool false,.bool false,.int .i64 0,.int .i64 0,.bool false,.bool false,.slice none 0 0])).run prog _= .ok () _:=jP n.out (IsN.of (.mk 3 0 [] false 0 Ce.zero Ce.zero []) none 0 0);go_wp2_with fail
  refine lS results121 es es (n.out.put (IsN.of (.mk 3 0 [] false 0 Ce.zero Ce.zero []) none 0 0)) ?_;exact RetP.leaf (t:= .mk 3 0 [] false 0 Ce.zero Ce.zero []) rfl v.out x.out (ls _) pl
end
end Go.Proofs.YtilbpmimoijfhaaGreatDoor
