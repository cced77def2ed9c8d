/- Formulas: a number, and a formula in brackets, by the parser (printed by gen/mkk20.py). -/
import Derived.Test.YtilbpmimoijfhaaGreatDoorY34
namespace Go.Proofs.YtilbpmimoijfhaaGreatDoor
set_option linter.all false
set_option maxRecDepth 100000
set_option maxHeartbeats 16000000
open Go.RowKit Go.Proofs.Tryz
section
open Fx (Tr Rs Tk)
attribute [local go_sem ↓] qh qn xy xc
def yvR (p g b:Nat) (D L:UInt8) (S:ByteArray) (op:Nat) (l:List UInt8) (hk:(Fx.tok D L l).kind =1):A7 p g b D L S op l:=by
 intro w h;rw[Fx.sS,bT hk];have O:=Fx.ytr hk;have dP:=h.len;have mV:=h.hz;have M:(Fx.tok D L l).text.length <=1000000:=by have:=Fx.yo9 hk;omega
 refine Er ?_;intro ht tk aX;rw[<-aX] at ht;unfold tokV tkv at ht;refine Ah ?_;intro K hK F hF N hN T ce E dB;rw[<-hK,<-hF,<-hN,<-ce,<-dB] at ht;refine M3 ?_;intro bH pl bp b0 d0 aR bP;rw[<-aX] at hk O M ⊢;have n6: ¬ tk.kind=6:=aG;have q1:(K==1)=true:=zp;have n:=fun W (hf:FoR W g b D L)=>ysY hf T E (by rw[<-dN,bH];exact M) aG;rw[bH] at n;have Ey:=h.fo.ne;rw[show tk.exp=E from dB.symm]
 cases m:Fx.numb tk.text E with
 |some y=>
  have hv:SZ tk.text E= .tuple #[.int .u64 (y:Nat),.bool true]:=by unfold SZ;rw[m]
  rw[hv] at n
  obtain⟨DR,Z,J,D0,HP,iF,ib,HF,HN,lP⟩:=EG n ht b0 d0 h bH aX hF hN bP
  clear ht b0 d0 h bH aX hK hF hN ce dB aR bP hk O dP mV M n m hv
  go_enter func91,ntmps91
  go_upto_region 2 with (first|(go_at_call 41;refine cp (Z.out _ J.out) ?_;intro w2 hb2))
  have u:Below w.heap.size w w2:=J.out.trans (hb2.mono cn)
  have bM:=D0.out.on hb2
  obtain⟨j,da⟩:=bx (w2.alloc (Obj.cells #[.int .i64 K,.int .i64 F,.int .i64 N,.string T,.int .i64 E] 77))
  have a:Cs j w2.heap.size [.int .i64 K,.int .i64 F,.int .i64 N,.string T,.int .i64 E]:=yct
  have s:Below w2.heap.size w2 j:=yd7
  have I:=bM.on s
  have q:Below w.heap.size w j:=u.trans (s.mono u.size)
  obtain⟨d,H⟩:=bx (w2.heap.size)
  have j':w.heap.size<d:=yfQ
  rw[<-da]
  rw[<-H] at a ⊢
  have z0:=a.get 0 rfl;have z1:=a.get 1 rfl;have z2:=a.get 2 rfl;have z3:=a.get 3 rfl;have z4:=a.get 4 rfl
  have zl:=a.1
  have HB:=aL q;have i:=aL (HP.out.on q);obtain⟨R,qK⟩:=dY I a
  clear da H q a hb2 u bM I s
  have p0:j.cell? ⟨p,0,none⟩=some (.pointer (some ⟨g,0,none⟩)):=i.out.mem.get 0 rfl
  have pz:=i.out.mem.lt
  have P:p≠b:=aG
  have v:d≠b:=aG
  have Y:w.heap.size≠b:=aG
  go_upto_region 4 with (fail)
  go_region_held3 (fun w'=>w'.cell? ⟨p,0,none⟩=some (.pointer (some ⟨g,0,none⟩))/\w'.cell? ⟨d,3,none⟩=some (.string T)/\w'.cell? ⟨d,4,none⟩=some (.int .i64 E))
   (first|go_keep|(refine⟨?_,?_,?_⟩<;>(first|(rw[C];assumption)|(rw[B];assumption)))|(refine⟨?_,?_,?_⟩<;>(first|(go_simp;done)|(simp[go_sem, *];done))))
   (first|(go_at_call 120;(with_reducible refine(DR.out _ (i.out.fo.on dt)).mono ?_);rintro e w3 ⟨rfl,f,A⟩;obtain⟨G,Q⟩:=dY f A;have C:=fun o=>f.cell (k:=p) (o:=o) P qQ;have B:=fun o=>f.cell (k:=d) (o:=o) v qQ;have U:=f.size;(try simp only[fO,gz,fY,gt] at U);clear f A))
  have c:Onl b j w3:=by first|exact G.out|exact(Onl.of i.out.fo.rd.lt (eN.drew)).trans G.out
  have x:=aL (i.out.turn c Q.out)
  have DX:=aL (R.out.of (c.block w.heap.size Y DD))
  have DQ:=aL c
  have x1:w3.cell? ⟨d,1,none⟩=_:=(c.cell v zl).trans z1
  have x2:w3.cell? ⟨d,2,none⟩=_:=(c.cell v zl).trans z2
  have Mx:=c.size
  clear C B c
  have p2:=x.out.mem.get 2 rfl
  have pf:=x.out.mem.frozen 2
  have pz:=x.out.mem.lt
  have tD:=x.out.past (N:=N) lP.out (by rw[HN.out,bv n6])
  have r:Nd (w3.setCell ⟨p,2,none⟩ (.int .i64 N)) w.heap.size znv:=DX.out.of (tF _ _ _ _ (by show ¬ w.heap.size=p;omega))
  have dg:(ve (.pointer (some ⟨w.heap.size,0,none⟩)) (.agg #[.int .i64 1,.int .u64 (y:Nat),.string ⟨#[]⟩,.bool false,.int .i64 0,.int .i64 0,.int .i64 0,.bool false,.bool false,.int .i64 0,.int .i64 0,.bool false,.bool false,.slice none 0 0])).run prog (w3.setCell ⟨p,2,none⟩ (.int .i64 N))= .ok () (nput (w3.setCell ⟨p,2,none⟩ (.int .i64 N)) w.heap.size (.agg #[.int .i64 1,.int .u64 (y:Nat),.string ⟨#[]⟩,.bool false,.int .i64 0,.int .i64 0,.int .i64 0,.bool false,.bool false,.int .i64 0,.int .i64 0,.bool false,.bool false,.slice none 0 0])):=jP r (IsN.of (.mk 1 y [] false 0 Ce.zero Ce.zero []) none 0 0)
  have fZ:Nd (nput (w3.setCell ⟨p,2,none⟩ (.int .i64 N)) w.heap.size (.agg #[.int .i64 1,.int .u64 (y:Nat),.string ⟨#[]⟩,.bool false,.int .i64 0,.int .i64 0,.int .i64 0,.bool false,.bool false,.int .i64 0,.int .i64 0,.bool false,.bool false,.slice none 0 0])) w.heap.size (.agg #[.int .i64 1,.int .u64 (y:Nat),.string ⟨#[]⟩,.bool false,.int .i64 0,.int .i64 0,.int .i64 0,.bool false,.bool false,.int .i64 0,.int .i64 0,.bool false,.bool false,.slice none 0 0]):=r.put (IsN.of (.mk 1 y [] false 0 Ce.zero Ce.zero []) none 0 0)
  have oZ:Two p b w (w3.setCell ⟨p,2,none⟩ (.int .i64 N)):=Two.setL ((Two.of HB.out).trans (Two.onr DQ.out)) 2 _
  obtain⟨fR,V,kY⟩:=iJ tD fZ oZ
  clear tD r fZ oZ
  go_wp2_with fail
  refine lS results91 es es V.out ?_
  exact RetP.leaf (t:= .mk 1 y [] false 0 Ce.zero Ce.zero []) rfl kY.out fR.out cm pl
 |none=>
  obtain⟨z,hv⟩: ∃ z:Int,SZ tk.text E= .tuple #[.int .u64 z,.bool false]:=⟨_,by unfold SZ;rw[m]⟩
  rw[hv] at n
  obtain⟨DR,Z,J,D0,HP,iF,ib,HF,HN,lP⟩:=EG n ht b0 d0 h bH aX hF hN bP
  clear ht b0 d0 h bH aX hK hF hN ce dB aR bP hk O dP mV M n m hv
  go_enter func91,ntmps91
  go_upto_region 2 with (first|(go_at_call 41;refine cp (Z.out _ J.out) ?_;intro w2 hb2))
  have u:Below w.heap.size w w2:=J.out.trans (hb2.mono cn)
  have bM:=D0.out.on hb2
  obtain⟨j,da⟩:=bx (w2.alloc (Obj.cells #[.int .i64 K,.int .i64 F,.int .i64 N,.string T,.int .i64 E] 77))
  have a:Cs j w2.heap.size [.int .i64 K,.int .i64 F,.int .i64 N,.string T,.int .i64 E]:=yct
  have s:Below w2.heap.size w2 j:=yd7
  have I:=bM.on s
  have q:Below w.heap.size w j:=u.trans (s.mono u.size)
  obtain⟨d,H⟩:=bx (w2.heap.size)
  have j':w.heap.size<d:=yfQ
  rw[<-da]
  rw[<-H] at a ⊢
  have z0:=a.get 0 rfl;have z1:=a.get 1 rfl;have z2:=a.get 2 rfl;have z3:=a.get 3 rfl;have z4:=a.get 4 rfl
  have zl:=a.1
  have HB:=aL q;have i:=aL (HP.out.on q);obtain⟨R,qK⟩:=dY I a
  clear da H q a hb2 u bM I s
  have p0:j.cell? ⟨p,0,none⟩=some (.pointer (some ⟨g,0,none⟩)):=i.out.mem.get 0 rfl
  have pz:=i.out.mem.lt
  have P:p≠b:=aG
  have v:d≠b:=aG
  have Y:w.heap.size≠b:=aG
  go_upto_region 4 with (fail)
  go_region_held3 (fun w'=>w'.cell? ⟨p,0,none⟩=some (.pointer (some ⟨g,0,none⟩))/\w'.cell? ⟨d,3,none⟩=some (.string T)/\w'.cell? ⟨d,4,none⟩=some (.int .i64 E))
   (first|go_keep|(refine⟨?_,?_,?_⟩<;>(first|(rw[C];assumption)|(rw[B];assumption)))|(refine⟨?_,?_,?_⟩<;>(first|(go_simp;done)|(simp[go_sem, *];done))))
   (first|(go_at_call 120;(with_reducible refine(DR.out _ (i.out.fo.on dt)).mono ?_);rintro e w3 ⟨rfl,f,A⟩;obtain⟨G,Q⟩:=dY f A;have C:=fun o=>f.cell (k:=p) (o:=o) P qQ;have B:=fun o=>f.cell (k:=d) (o:=o) v qQ;have U:=f.size;(try simp only[fO,gz,fY,gt] at U);clear f A))
  have c:Onl b j w3:=by first|exact G.out|exact(Onl.of i.out.fo.rd.lt (eN.drew)).trans G.out
  have x:=aL (i.out.turn c Q.out)
  have DX:=aL (R.out.of (c.block w.heap.size Y DD))
  have DQ:=aL c
  have x1:w3.cell? ⟨d,1,none⟩=_:=(c.cell v zl).trans z1
  have x2:w3.cell? ⟨d,2,none⟩=_:=(c.cell v zl).trans z2
  have Mx:=c.size
  clear C B c
  have ry:=aL (yb1 x.out 2 F tk.at' HF.out)
  go_wp2_with (first|(go_at_call 67;refine cV ry.out ?_;rintro e w4 ⟨rfl,X,eO⟩;have r:=DX.out.of (X.block w.heap.size aG aG);have dg:=xr r;have V:=aL r.putZero;obtain⟨jw,o7⟩:=dY X eO;clear X eO r))
  refine lS results91 es es V.out ?_
  exact RetP.bad (((Two.of HB.out).trans (Two.onr DQ.out)).trans (Two.onl jw.out)) o7.out cm pl
def ysD (p g b:Nat) (D L:UInt8) (S:ByteArray) (op:Nat) (l:List UInt8) (hk:(Fx.tok D L l).kind =5/\(Fx.tok D L l).text =[40]) (hE: ∀ uV d,d.length<l.length->zK p g b D L S 1 uV d):A7 p g b D L S op l:=by
 intro w h;rw[Fx.sS,bv (by rw[hk.1];decide),bv (by rw[hk.1];decide),bv (by rw[hk.1];decide),bv (by rw[hk.1];decide),bT hk];have M:=Fx.oV hk.1;refine Er ?_;intro ht tk aX;rw[<-aX] at ht;unfold tokV tkv at ht;refine Ah ?_;intro K hK F hF N hN T ce E dB;rw[<-hK,<-hF,<-hN,<-ce,<-dB] at ht;refine M3 ?_;intro bH pl bp b0 d0 aR bP;rw[<-aX] at hk M ⊢;have n6: ¬ tk.kind=6:=by rw[hk.1];decide
 have q1:(K==1)=false:=Sr;have q2:(K==2)=false:=Sr;have q4:(K==4)=false:=Sr;have q3:(K==3)=false:=Sr;have q5:(K != 5)=false:=Sr;have q6:(!(T.toList==[40]))=false:=by rw[sT,bH,hk.2];rfl
 by_cases ho:op=100
 ·subst ho;rw[bT rfl];have y:=fun w1 (hb:Below w.heap.size w w1)=>yeQ (h.on hb) K N E F T tk.at' hF;obtain⟨Q,HT,B0,D0,HP,iF,ib,HF,HN,lP⟩:=EG y ht b0 d0 h bH aX hF hN bP;clear ht b0 d0 h bH aX hK hF hN ce dB aR bP hk M y hE;go_enter func91,ntmps91
  go_upto_region 2 with (first|(go_at_call 41;refine yU ?_;intro w2 hb2))
  refine zw ?_;intro aP bM Z2 da cZ bO cJ dL H2 eZ j';rw[<-eZ] at cZ ⊢;refine zd ?_;intro z0 z1 z2 z3 z4 zl HB dU gc qK;clear da eZ dL cZ hb2 aP bM cJ bO;go_upto_region 22 with (first|(go_at_call 90;refine cV (Q.out _ HB.out) ?_;rintro e w3 ⟨rfl,dx,fy⟩;obtain⟨fg,fR⟩:=dY dx fy;clear dx fy))
  have m:Nd w3 w.heap.size znv:=gc.out.of (fg.out.block _ aG aG);have dg:=xr m;have fZ:=aL m.putZero;go_wp2_with fail
  refine lS results91 es es fZ.out ?_;exact RetP.bad ((Two.of HB.out).trans (Two.onl fg.out)) fR.out cm pl
 ·rw[bv ho];have cf:op<100:=by have:=h.opl;omega
  have y:=fun w1 (hb:Below w.heap.size w w1)=>ydG (h.on hb) cf K N E F T bP (by rw[hN,bv n6]);obtain⟨r1,dH⟩:=bx (Fx.jr D L 1 (op+1) tk.end');have G:=hE (op+1) tk.end' M;unfold zK at G;rw[<-dH] at G ⊢;rw[show((1:Nat):Int)=1 from rfl] at G;have i1:(op:Int)<=99:=aG;obtain⟨Q,qJ,HT,B0,D0,HP,iF,ib,HF,HN,lP⟩:=VP y G ht b0 d0 h bH aX hF hN bP;clear ht b0 d0 h bH aX hK hF hN ce dB aR bP hk M y hE ho G dH;go_enter func91,ntmps91
  go_upto_region 2 with (first|(go_at_call 41;refine yU ?_;intro w2 hb2))
  refine zw ?_;intro aP bM Z2 da cZ bO cJ dL H2 eZ j';rw[<-eZ] at cZ ⊢;refine zd ?_;intro z0 z1 z2 z3 z4 zl HB dU gc qK;clear da eZ dL cZ hb2 aP bM cJ bO;go_upto_region 24 with (first|(go_at_call 90;refine cV (Q.out _ HB.out) ?_;refine vb ?_;intro w3 fg fR fb)|(go_at_call 40;refine cV (qJ.out _ fR.out) ?_;rintro e w5 ⟨X1,c,rfl,fF,eJ,fq⟩;obtain⟨cs,bN⟩:=fF.isN;have nc:=jP (Nd.zero w5) bN;(unfold jg at nc);obtain⟨DI,uO,pY,iP⟩:=jv fF eJ fq bN;have kA:=eJ.size;clear fF eJ fq bN))
  refine yhO ?_;intro Z5 fV rg kc B5 jp;rw[<-jp] at rg kc ⊢;have oC:p<B5:=DD;have Od:H2<B5:=DD;have wg:=pY.out.below kc oC;obtain⟨o,o1,o2,o3,o4,o5⟩:=wg.setOpen;have nF:Two p b w Z5:=(((Two.of HB.out).trans (Two.onl fg.out)).trans uO.out).own (kc.mono aG);have qw:Nd Z5 w.heap.size znv:=gc.out.of (by rw[kc.block w.heap.size aG,uO.out.block w.heap.size aG aG DD,fg.out.block w.heap.size aG DD])
  have nB: ∃ A,TreeX Z5 A X1 c/\ ∀ k,A k->w.heap.size<k/\k<B5:=by obtain⟨A,q,a2⟩:=DI.out;exact⟨A,q.kept (fun _ h=>h) (fun k hk=>kc.block k Ia),fun k hk=>by have:=a2 k hk;omega⟩
  obtain⟨nQ,p8,tQ,Y,jw,nM⟩:=ts nF qw nB rg o4 o5;have Em:=Y.out.lt;clear fV jp kc wg nF qw nB rg nc o4 o5;rcases Q3 r1 with ⟨u1,a,er,H⟩|⟨x1,Aq,er,H⟩
  ·have he:=jw.out H;subst he;rw[H];go_upto_region 25 with (fail)
   obtain⟨W6,ej⟩:=bx (Z5.setCell ⟨p,3,none⟩ (.int .i64 (op:Int)));have i:=nM.out (op:Int) (fun _=>rfl);rw[<-ej] at i;obtain⟨rfl,dC⟩:=(show c=u1/\Ps W6 p g b D L S a op by first|exact i|(rw[er] at i;exact i));refine ya8 ?_;intro fU vm kP;have rg:=Y.out.of (fU B5 aG);have m:=p8.out.of (fU w.heap.size aG);have Oc:=rg.lt
   have kK: ∃ A,TreeX W6 A X1 c/\ ∀ k,A k->w.heap.size<k/\k<B5:=by obtain⟨A,q,a2⟩:=tQ.out;exact⟨A,q.kept (fun _ h=>h) (fun k hk=>fU k Ia),a2⟩
   have Z:Below W6.heap.size W6 (W6.alloc (Obj.cells #[.string ⟨#[41]⟩] 9)):=ek
   have aX:=K4 (dC.on Z) W6.heap.size [⟨#[41]⟩] 1 rfl bL (fun j hj=>by
    have mj:j=0:=Jb;subst mj
    exact(Cs.new W6 [.string ⟨#[41]⟩] 9).2 0 cn) cn
   rw[L2] at aX;obtain⟨is,R⟩:=bx (decide ((Fx.tok D L a).kind =5/\(Fx.tok D L a).text =[41]));rw[<-R] at aX;unfold Am tokV tkv at aX;obtain⟨K2,iD⟩:=bx ((Fx.tok D L a).kind :Int);obtain⟨F2,kN⟩:=bx ((S.size-(Fx.tok D L a).at'.length :Nat):Int);obtain⟨N2,iU⟩:=bx ((if(Fx.tok D L a).kind =6 then(0:Int) else((S.size-(Fx.tok D L a).end'.length :Nat):Int)):Int);obtain⟨T2,ir⟩:=bx (⟨(Fx.tok D L a).text.toArray⟩:ByteArray);obtain⟨E2,jo⟩:=bx ((Fx.tok D L a).exp :Int);rw[<-iD,<-kN,<-iU,<-ir,<-jo] at aX;obtain⟨ke,tU,Ad,ui,rq,O,Qa,tZ⟩:=W5 aX dC R Z kK kP rg m;rw[<-ej];have Kh:B5<W6.heap.size:=Oc;clear aX dC R Z iD kN iU ir jo ej i fU vm kP rg m kK;go_upto_region 28 with (first|(go_at_call 92;refine cV ke.out ?_;refine vb ?_;intro J tV ZJ Mw))
   obtain⟨f,Oe⟩:=bx (J.alloc (Obj.cells #[.int .i64 K2,.int .i64 F2,.int .i64 N2,.string T2,.int .i64 E2] 77));have V:Below J.heap.size J f:=by rw[Oe];exact ek
   have Kg:W6.heap.size<J.heap.size:=by rw[i7] at Mw;omega
   have s:Two p b W6 f:=((Two.of ui.out).trans (Two.onl tV.out)).trans (Two.of V);have Kl:=ZJ.out.on V;have IK:Nd f B5 X1:=Qa.out.two s aG aG;have kM:Nd f w.heap.size znv:=tZ.out.two s aG aG;have Wf:=s.size
   have n: ∃ A,TreeX f A X1 c/\ ∀ k,A k->w.heap.size<=k/\k<f.heap.size/\k≠w.heap.size:=by obtain⟨A,q,a2⟩:=rq.out;exact⟨A,q.kept (fun _ h=>h) (fun k hk=>by have:=a2 k hk;exact s.block k aG aG aG),fun k hk=>by have:=a2 k hk;omega⟩
   rw[<-Oe];obtain⟨uN,Ur,u,U,X⟩:=qF s Kl IK kM n;clear Oe V s Kl IK kM n Mw;obtain⟨A,n,x⟩:=X.out;obtain⟨Jf,v⟩:=dY n x;clear n x
   cases is with
   |true=>
    have fk:(Fx.tok D L a).kind =5/\(Fx.tok D L a).text =[41]:=by simpa using Ad.out.symm
    have I:((Rs.ok c a).bind fun e d=>if(Fx.tok D L d).kind =5/\(Fx.tok D L d).text =[41] then Rs.ok e (Fx.tok D L d).end' else Fx.no D L d)= .ok c (Fx.tok D L a).end' :=bT fk
    have lF:=fx u.out
    have dg:=jP U.out iP.out
    have Jr:=aL I
    clear I fk
    go_wp2_with fail
    refine lS results91 es es (U.out.put iP.out) ?_
    (try rw[er])
    rw[Jr.out]
    exact RetP.of (r:= .ok c (Fx.tok D L a).end') (t:=c) Jf.out v.out (O.out.trans uN.out) ⟨rfl,Ur.out⟩ cm pl rfl
   |false=>
    have I:((Rs.ok c a).bind fun e d=>if(Fx.tok D L d).kind =5/\(Fx.tok D L d).text =[41] then Rs.ok e (Fx.tok D L d).end' else Fx.no D L d)= .er 13 (Fx.tok D L a).at' :=bv (by simpa using Ad.out)
    have iX:=aL (fun W (hb:Below f.heap.size f W)=>Yq (Ur.out.on hb))
    have Jr:=aL I
    have sy:=fx u.out
    have sw:=fx (show Nd f.drew B5 X1 from u.out)
    clear I
    go_upto_region 29 with (fail)
    go_region_held3 (fun w'=>(ox (.pointer (some ⟨B5,0,none⟩))).run prog w'= .ok X1 w')
     (first|go_keep|exact nt|exact sx|exact sy|exact sw)
     (first|(go_at_call 42;(with_reducible refine(iX.out _ dt).mono ?_);rintro e w8 ⟨rfl,z,qe⟩;have sx:=fx (u.out.of (z.block B5 aG zv));have nt:=fx ((u.out.of (z.block B5 aG zv)).other (C:=w.heap.size) aG X1);have B:=U.out.of (z.block w.heap.size aG zv);have GO:=jP B iP.out;have tY:=aL (B.put iP.out);obtain⟨xZ,DM⟩:=dY z qe;clear z qe B))
    go_wp2_with fail
    refine lS results91 es es tY.out ?_
    (try rw[er])
    rw[Jr.out]
    have P:Two p b f w8:=yed
    refine RetP.of (r:= .er 13 (Fx.tok D L a).at') (t:=c) (Jf.out.kept (fun _ h=>h) (fun k hk=>by have:=v.out k hk;exact P.block k aG aG this.2.1)) (fun k hk=>by have:=v.out k hk;have:=P.size;omega) ((O.out.trans uN.out).trans P) DM.out cm pl rfl
  ·rw[H];go_upto_region 25 with (fail)
   obtain⟨W6,ej⟩:=bx (Z5.setCell ⟨p,3,none⟩ (.int .i64 (wrap64 (o-1))));have i:=nM.out (wrap64 (o-1)) (fun h=>by rw[H] at h;cases h);rw[<-ej] at i;refine ya8 ?_;intro fU vm kP;have lF:=fx (Y.out.of (fU B5 aG));have m:=p8.out.of (fU w.heap.size aG);have dg:=jP m iP.out;have B:=aL (m.put iP.out)
   obtain⟨A,n,x⟩: ∃ A,TreeX W6 A X1 c/\ ∀ k,A k->w.heap.size<=k/\k<W6.heap.size/\k≠w.heap.size:=by obtain⟨A,q,a2⟩:=tQ.out;exact⟨A,q.kept (fun _ h=>h) (fun k hk=>fU k Ia),fun k hk=>by have:=a2 k hk;omega⟩
   obtain⟨X,v,O,Ac⟩:=jv n x kP i;rw[<-ej];clear ej i fU kP m n x vm;go_wp2_with fail
   refine lS results91 es es B.out ?_;have oX:=Ac.out;(try rw[er] at oX);(try rw[er]);exact RetP.of (r:= .er x1 Aq) (t:=c) X.out v.out O.out oX cm pl rfl
end
end Go.Proofs.YtilbpmimoijfhaaGreatDoor
