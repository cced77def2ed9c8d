/- Formulas: a function's call, by the parser (printed by gen/mkk24.py). -/
import Derived.Test.YtilbpmimoijfhaaGreatDoorY42
namespace Go.Proofs.YtilbpmimoijfhaaGreatDoor
set_option linter.all false
set_option maxRecDepth 100000
set_option maxHeartbeats 16000000
open Go.RowKit Go.Proofs.Tryz
section
open Fx (Tr Rs Tk)
attribute [local go_sem ↓] qh qn xy xc
def yqX {D L:UInt8} (hl:Fx.Lc D L) {l:List UInt8} (h:Lib.hasPrefix l [40]=true): ∃ r,l=40::r/\Fx.tok D L l=⟨5,40::r,r,[40],0⟩:=by
 cases l with
 |nil=>cases h
 |cons c r=>
  rw[Fx.qY,Fx.yz,jW] at h
  have a:c=40:=by simpa using(sb.1 h).symm
  subst a
  exact⟨r,rfl,Fx.qz hl (by unfold Fx.one;rfl) r⟩
def yuc {D L:UInt8} (iC:Fx.Lc D L) (p g b:Nat) (S:ByteArray) (op:Nat) (l:List UInt8) (hp:Lib.hasPrefix l [40]=true) (hE: ∀ uV l',l'.length<l.length->zK p g b D L S 1 uV l'):ybt p g b D L S op l:=by
 intro d w h;rw[Fx.yhY];obtain⟨rest,hl,kB⟩:=yqX iC hp;rw[kB];simp only;have bP:rest <:+S.data.toList:=(by rw[hl];exact CV _ _:rest <:+l).trans h.suf;have X:=fun w1 (hb:Below w.heap.size w w1)=>Lu (h.on hb);rw[kB] at X;unfold tokV tkv at X;simp only at X;rw[bv bL] at X;obtain⟨F,hF⟩:=bx ((S.size-(40::rest).length :Nat):Int);obtain⟨N,hN⟩:=bx ((S.size-rest.length:Nat):Int);rw[<-hF,<-hN] at X;have pl:=h.mem.lt;have bp:=h.bp;have gp:=h.gp;have d0:=(Nd.zero w).on ((oA _ (w.alloc jg)).alloc cm jg);have d1:=(Nd.zero (w.alloc jg));rw[i7] at d1;have Ev:IsN (kag d (.slice none 0 0)) (trc (Fx.nod 10 d.data.toList []) (.slice none 0 0)):=IsN.kag d none 0 0;have qc:=jP d1 Ev;obtain⟨Z1,Ct⟩:=bx (nput ((w.alloc jg).alloc jg) (w.heap.size+1) (kag d (.slice none 0 0)));rw[<-Ct] at qc;have b1:Below w.heap.size w Z1:=by rw[Ct];exact zg (ls _) ((ek).alloc cn _)
 have e4:Nd Z1 w.heap.size znv:=by rw[Ct];exact d0.other aG _
 have e6:Nd Z1 (w.heap.size+1) (kag d (.slice none 0 0)):=by rw[Ct];exact d1.put Ev
 have sa:Z1.heap.size=w.heap.size+2:=by rw[Ct,yI,i7,i7]
 unfold jg kag at qc;(try simp only[] at qc);obtain⟨HT,ix,Uz,Uy,HP,qC,HF,HN,qJ,Zp⟩:=EG X b1 e4 e6 h bP hF hN hE sa;by_cases ho:op=100
 ·subst ho;rw[bT rfl];have kH:=fun w1 (hb:Below w.heap.size w w1)=>yeQ (h.on hb) 5 N 0 F ⟨#[40]⟩ (40::rest) hF;have pj:=aL kH;clear X d0 d1 Ev Ct b1 e4 e6 sa h bP hF hN hE kH kB hl;go_enter func161,ntmps161
  go_upto_region 3 with (first|(go_at_call 41;refine cp (HT.out _ ix.out) ?_;intro w2 hb2;have kx:=aL (ix.out.trans (hb2.mono ix.out.size));have uc:=aL (Uz.out.on hb2);have ub:=aL (Uy.out.on hb2);clear hb2)|(go_at_call 90;refine cV (pj.out _ kx.out) ?_;refine vb ?_;intro w3 fg fR fb))
  have l4:=uc.out.lt;have l6:=ub.out.lt;have ct:=uc.out.of (fg.out.block _ aG l4);have we:=ub.out.of (fg.out.block _ aG l6);have lF:=fx we;have dg:=jP ct (IsN.kag d none 0 0);have ic:=aL (ct.put (IsN.kag d none 0 0));clear ct we;go_wp2_with fail
  refine lS results161 es es ic.out ?_;exact RetP.of (r:= .er 7 (40::rest)) (t:=Fx.nod 10 d.data.toList []) (TreeX.leaf w3 (t:=Fx.nod 10 d.data.toList []) rfl) (fun k h=>h.elim) ((Two.of kx.out).trans (Two.onl fg.out)) fR.out cm pl rfl
 ·rw[bv ho];have cf:op<100:=by have:=h.opl;omega
  have kH:=fun w1 (hb:Below w.heap.size w w1)=>ydG (h.on hb) cf 5 N 0 F ⟨#[40]⟩ bP hN;obtain⟨r,hr⟩:=bx ((if(Fx.tok D L rest).kind =5/\(Fx.tok D L rest).text =[41] then Rs.ok (Fx.nod 10 d.data.toList []) (Fx.tok D L rest).end' else Fx.yG D L (op+1) d.data.toList [] rest));rw[<-hr];obtain⟨pj,HR⟩:=dY kH hr;have dP:rest.length<l.length:=by rw[hl];simp
  have i1:(op:Int)<=99:=aG;clear X d0 d1 Ev Ct b1 e4 e6 sa h bP hF hN hE kH kB hl hr;go_enter func161,ntmps161
  go_upto_region 4 with (first|(go_at_call 41;refine cp (HT.out _ ix.out) ?_;intro w2 hb2;have kx:=aL (ix.out.trans (hb2.mono ix.out.size));have uc:=aL (Uz.out.on hb2);have ub:=aL (Uy.out.on hb2);clear hb2)|(go_at_call 90;refine cV (pj.out _ kx.out) ?_;refine vb ?_;intro w3 fg fR fb))
  have l4:=uc.out.lt;have l6:=ub.out.lt;have ic:=aL (uc.out.of (fg.out.block _ aG l4));have kh:=aL (ub.out.of (fg.out.block _ aG l6));have kY:=aL (show Two p b w w3 from(Two.of kx.out).trans (Two.onl fg.out));have J':w.heap.size+2<=w3.heap.size:=aG;have im:Below w3.heap.size w3 (w3.alloc (Obj.cells #[.string ⟨#[41]⟩] 9)):=ek
  have B:=K4 (fR.out.on im) w3.heap.size [⟨#[41]⟩] 1 rfl bL (fun j hj=>by
   have mj:j=0:=Jb;subst mj
   exact(Cs.new w3 [.string ⟨#[41]⟩] 9).2 0 cn) cn
  rw[L2] at B;obtain⟨is,oI⟩:=bx (decide ((Fx.tok D L rest).kind =5/\(Fx.tok D L rest).text =[41]));rw[<-oI] at B;unfold Am tokV tkv at B;obtain⟨K2,iD⟩:=bx ((Fx.tok D L rest).kind :Int);obtain⟨F2,kN⟩:=bx ((S.size-(Fx.tok D L rest).at'.length :Nat):Int);obtain⟨N2,iU⟩:=bx ((if(Fx.tok D L rest).kind =6 then(0:Int) else((S.size-(Fx.tok D L rest).end'.length :Nat):Int)):Int);obtain⟨T2,ir⟩:=bx (⟨(Fx.tok D L rest).text.toArray⟩:ByteArray);obtain⟨E2,jo⟩:=bx ((Fx.tok D L rest).exp :Int);rw[<-iD,<-kN,<-iU,<-ir,<-jo] at B;obtain⟨ke,Ad,ui⟩:=iJ B oI im;clear B oI im iD kN iU ir jo;go_upto_region 5 with (first|(go_at_call 92;refine cV ke.out ?_;refine vb ?_;intro w5 nM DO kA))
  refine ycZ ?_;intro Z5 fV dr;have Em:w3.heap.size<w5.heap.size:=yce;have Dj:Two p b w3 Z5:=((Two.of ui.out).trans (Two.onl nM.out)).trans (Two.of dr);have IN:=ic.out.two Dj aG aG;have II:=kh.out.two Dj aG aG;have iM:=DO.out.on dr;have nF:Two p b w Z5:=kY.out.trans Dj;have Wh:=Dj.size;rw[<-fV];obtain⟨JF,JE,nL,nQ⟩:=jv IN II iM nF;clear fV dr Dj IN II iM nF kA
  cases is with
  |true=>
   have I:(Fx.tok D L rest).kind =5/\(Fx.tok D L rest).text =[41]:=by simpa using Ad.out.symm
   have x:r= .ok (Fx.nod 10 d.data.toList []) (Fx.tok D L rest).end' :=by rw[HR.out,bT I]
   have J:Ps Z5 p g b D L S (Fx.tok D L rest).end' (op+1):=nL.out
   have p3:Z5.cell? ⟨p,3,none⟩=some (.int .i64 ((op:Int)+1)):=J.mem.get 3 rfl
   have pf:=J.mem.frozen 3
   have pz:=J.mem.lt
   have Js:=aL J.setOpen
   have T: ∀ k,k≠p->(Z5.setCell ⟨p,3,none⟩ (.int .i64 op)).heap[k]? =Z5.heap[k]? :=fun k h1=>tF _ _ _ _ h1
   have kM:=JF.out.of (T w.heap.size aG)
   have mz:=JE.out.of (T (w.heap.size+1) aG)
   have lF:=fx mz
   have dg:=jP kM (IsN.kag d none 0 0)
   have o9:=aL (kM.put (IsN.kag d none 0 0))
   have uN:=aL (show Two p b w (Z5.setCell ⟨p,3,none⟩ (.int .i64 op)) from nQ.out.setL 3 _)
   have P:=aL x
   clear I x J T kM mz
   go_wp2_with fail
   refine lS results161 es es o9.out ?_
   rw[P.out]
   exact RetP.of (r:= .ok (Fx.nod 10 d.data.toList []) (Fx.tok D L rest).end') (t:=Fx.nod 10 d.data.toList []) (TreeX.leaf _ (t:=Fx.nod 10 d.data.toList []) rfl) (fun k h=>h.elim) uN.out ⟨rfl,Js.out⟩ cm pl rfl
  |false=>
   have x:Fx.yG D L (op+1) d.data.toList [] rest=r:=by rw[HR.out,bv (by simpa using Ad.out)]
   have hrel:yfr p g b D L S op l d w r Z5:=⟨[],rest,_,[],fun _=>False,x,nL.out,JE.out,JF.out,nQ.out,ArgsM.nil Z5 _ _,fun k h=>h.elim,by decide,dP⟩
   have tT:=aL hrel
   clear x hrel
   go_wp2_with fail
   go_loopw [10] (fun _ wr=>yfr p g b D L S op l d w r wr) (fun _ wr=>yr S p (.bool true) wr)
   case atStart=>exact tT.out
   case round=>
    obtain⟨ks,l1,v,xs,A,pP,J,we,ct,jZ,OO,hA,No,eA⟩:=hrel
    obtain⟨⟨O,M,hv⟩, -⟩:=id OO.row
    subst hv
    have GG:=jZ.size
    have Q4:=J.mem.lt
    have b6l:=we.lt
    have b4l:=ct.lt
    have fA:=qJ.out (op+1) l1 eA wr J
    rw[show((1:Nat):Int)=1 from rfl] at fA
    rw[Fx.ylc] at pP
    have BC: ∀ u i,Fx.jr D L 1 (op+1) l1= .ok u i->i.length<l1.length:=fun u i e=>Fx.Iw e
    obtain⟨r1,dH⟩:=bx (Fx.jr D L 1 (op+1) l1)
    rw[<-dH] at fA pP BC
    obtain⟨n,hn⟩:=bx (ks.length)
    obtain⟨JW,tU,kh,ic,uJ,Fb,HA,Qu,Qh,K⟩:=EG pP J we ct jZ OO hA fA BC hn
    have Sb:n<30:=aG
    clear pP J we ct jZ OO hA fA dH BC hn No
    rw[<-K.out] at kh Fb HA
    go_upto_region 9 with (first|(go_at_call 40;refine cV Qu.out ?_;rintro e R ⟨X1,o,rfl,fF,eJ,fq⟩;obtain⟨cs,bN⟩:=fF.isN;have nc:=jP (Nd.zero R) bN;(unfold jg at nc);obtain⟨DI,uO,pY,iP⟩:=jv fF eJ fq bN;have kA:=eJ.size;clear fF eJ fq bN))
    obtain⟨s,oO⟩:=bx (nput (R.alloc jg) R.heap.size X1)
    have KQ:Nd s R.heap.size X1:=by rw[oO];exact(Nd.zero R).put iP.out
    have js:Below R.heap.size R s:=by rw[oO];exact zg cm (ek)
    unfold jg at oO
    rw[<-oO]
    obtain⟨B9,wn⟩:=bx (R.heap.size)
    rw[<-wn] at KQ js kA ⊢
    have I1:Two p b wr s:=by have:=js.mono kA;exact uO.out.own this
    have qq:=kh.out.two I1 aG aG
    have IM:=ic.out.two I1 aG aG
    have lH:=pY.out.below js aG
    have IZ:=Fb.out.kept (w':=s) (fun k c=>by
     have hb:w.heap.size+2<=k/\k<wr.heap.size:=by
      rcases c with c|c
      ·have:=HA.out k c;omega
      ·exact Fb.out.row.lt c
     exact I1.block k aG aG hb.2)
    have kK: ∃ H,TreeX s H X1 o/\ ∀ k,H k->wr.heap.size<=k/\k<B9:=by obtain⟨H,a1,a2⟩:=DI.out;rw[<-wn] at a2;exact⟨H,a1.kept (fun _ h=>h) (fun k c=>js.block k (a2 k c).2),a2⟩
    have fS: ∀ k,(Value.slice O n M).ownBlock =some k->w.heap.size+2<=k/\k<wr.heap.size:=fun k c=>Fb.out.row.lt c
    have Kh:=KQ.lt
    obtain⟨QL,wN,tZ,Ac,JX,rq,wM,mD⟩:=W5 I1 qq IM lH IZ kK KQ fS
    clear oO wn js I1 qq IM lH IZ kK KQ nc fS
    rcases Q3 r1 with ⟨u1,i,er,ef⟩|⟨x1,Aq,er,ef⟩
    ·rw[ef]
     obtain⟨rfl,G3⟩:=(show o=u1/\Ps s p g b D L S i (op+1) by have:=Ac.out;rw[er] at this;exact this)
     have jj:=Qh.out _ _ er
     have oM:=JW.out
     rw[er] at oM
     have tN:s.cell? ⟨w.heap.size+1,13,none⟩=some (.slice O n M):=wN.out.ya2.get 13 rfl
     have nt:=fx wM.out
     have dS:=W4 iP.out s
     obtain⟨Q,iq⟩:=bx (s.alloc (Obj.cells cs.toArray 27))
     rw[<-iq] at dS
     have ey:Below s.heap.size s Q:=by rw[iq];exact ek
     have uk:Q.heap.size=s.heap.size+1:=ycB
     have Wk:=QL.out.size
     have Hg:(Value.slice O n M).ownBlock ≠some (w.heap.size+1):=fun e=>by have:=mD.out _ e;omega
     have Hh:(Value.slice O n M).ownBlock ≠some w.heap.size:=fun e=>by have:=mD.out _ e;omega
     have Dh:=JX.out.kept (w':=Q) (fun k c=>ey.block k (by
      rcases c with c|c
      ·have:=HA.out k c;omega
      ·have:=mD.out k c;omega))
     have si:=Dh.row.2
     rw[<-K.out] at si
     obtain⟨i0,hI⟩:=KI yqG
     have HI:=aL hI
     have RX:=wN.out.ya2.on ey
     have xo: ∀ j u,cs[j]? =some u->Q.cell? ((⟨s.heap.size,0,none⟩:Addr).add j)=some u:=fun j u hu=>by rw[iq];exact yjN s cs _ j u hu
     obtain⟨PQ,p',Ea,QG,Jx,DT,JB,JC,ZO,Uf⟩:=EG G3 oM ey Dh si RX xo Hg Hh uk;have QB:=aL (show cs.length=1*14 by rw[iP.out.len]);have HER:=aL er
     clear G3 oM ey Dh si hI RX xo Hg Hh iq er uk
     go_upto_region 12 with (at_builtin;refine wpList_append_lies _ rfl _ _ 25 rfl (w.heap.size+2) 27 i0 znv 14 120 underlying25 HI.out.1 HI.out.2.1 HI.out.2.2.1 HI.out.2.2.2 rfl bL _ n xs rfl Jx.out ⟨s.heap.size,0,none⟩ 1 1 cs rfl QB.out JB.out iP.out.one bL IX aG (by have:=Uf.out;omega) Q.heap.size rfl ?_;intro q y w8 lE bB iB aW;have m8:=DT.out.grown bB JC.out;have O':=m8.get 13 rfl;have f138:=m8.frozen 13;have Mv:=m8.lt;obtain⟨Jw,Qo,oe⟩:=iJ lE bB iB;clear lE bB iB m8)
     obtain⟨z,tj⟩:=bx (w8.setCell ⟨w.heap.size+1,13,none⟩ (.slice (some ⟨q,0,none⟩) (n+1) y))
     obtain⟨H,pQ,gi⟩:=rq.out
     have MF:=Uf.out
     have xw:w.heap.size+2<=q:=by
      rcases oe.out with e|e
      ·exact(mD.out _ e).1
      ·omega
     have qx:Below (w.heap.size+1) s z:=by have a1:Below (w.heap.size+1) s Q:=Ea.out.mono aG;have a2:Below (w.heap.size+1) s w8:=a1.grown Qo.out aG (fun k e=>by have:=mD.out k e;omega);rw[tj];exact a2.setCell (p:=⟨w.heap.size+1,13,none⟩) cm _
     have TI:Two p b w z:=(uJ.out.trans QL.out).own (qx.mono (ls _))
     have CJ:=PQ.out.below qx aG
     have IL:=tZ.out.below qx (VB _)
     have IF:Nd z (w.heap.size+1) (kag d (.slice (some ⟨q,0,none⟩) (n+1) y)):=by rw[tj];exact((wN.out.on Ea.out).of (Qo.out.block (w.heap.size+1) aG (fun e=>JC.out e.symm))).kset _ _ _
     have mP: ∀ k,A k->k<Q.heap.size/\(Value.slice O n M).ownBlock ≠some k:=fun k c=>by have:=HA.out k c;exact⟨by omega,this.2.2⟩
     have Di: ∀ k,H k->k<Q.heap.size/\(Value.slice O n M).ownBlock ≠some k:=fun k c=>by have h1:=gi k c;refine⟨by omega,fun e=>?_⟩;have:=mD.out k e;omega
     have lE:=Jw.out
     rw[K.out] at lE
     have IY:ArgsM z (w.heap.size+2) (fun k=>A k∨H k) (ks++[o]) (.slice (some ⟨q,0,none⟩) (n+1) y) (xs++cs):=by
      have fm:TreeX Q H X1 o:=pQ.kept (fun _ h=>h) (fun k c=>Ea.out.block k (by have:=gi k c;omega))
      have:=ArgsM.more (B6:=w.heap.size+1) QG.out fm iP.out lE Qo.out mP Di (fun k c=>by
       rcases c with c|c
       ·have:=HA.out k c;omega
       ·have:=gi k c;omega) aG
      rw[tj,K.out];exact this
     have TF: ∀ k,(A k∨H k)->w.heap.size+2<=k/\k<z.heap.size/\(Value.slice (some ⟨q,0,none⟩) (n+1) y).ownBlock ≠some k:=fun k c=>by
      have hs:=qx.size
      have aW:w.heap.size+2<=k/\k<s.heap.size/\(Value.slice O n M).ownBlock ≠some k:=by
       rcases c with c|c
       ·have:=HA.out k c;exact⟨this.1,by omega,this.2.2⟩
       ·have:=gi k c;exact⟨by omega,by omega,(Di k c).2⟩
      refine⟨aW.1,by omega,fun e=>?_⟩;have e':q=k:=by simpa[Value.ownBlock] using e
      rcases oe.out with e2|e2
      ·rw[e'] at e2;exact aW.2.2 e2
      ·omega
     rw[<-tj]
     have p0:=CJ.mem.get 0 rfl
     have g3:=CJ.fo.lst
     have gl:=CJ.fo.gl
     have pz:=CJ.mem.lt
     have im:Below z.heap.size z (z.alloc (Obj.cells #[.string ⟨#[41]⟩,.string ⟨#[L]⟩] 9)):=ek
     have B:=K4 (CJ.on im) z.heap.size [⟨#[41]⟩,⟨#[L]⟩] 2 rfl bL (fun j hj=>by
      have mj:j=0∨j=1:=Jb;rcases mj with rfl|rfl
      ·exact(Cs.new z [.string ⟨#[41]⟩,.string ⟨#[L]⟩] 9).2 0 cn
      ·exact(Cs.new z [.string ⟨#[41]⟩,.string ⟨#[L]⟩] 9).2 1 cn) cn
     rw[yqc] at B
     obtain⟨VK,mn⟩: ∃ is,is=decide ((Fx.tok D L i).kind =5/\((Fx.tok D L i).text =[41]∨(Fx.tok D L i).text =[L])):=⟨_,rfl⟩
     rw[<-mn] at B
     unfold Am tokV tkv at B
     obtain⟨K3,tH⟩:=bx ((Fx.tok D L i).kind :Int)
     obtain⟨F3,qv⟩:=bx ((S.size-(Fx.tok D L i).at'.length :Nat):Int)
     obtain⟨N3,kr⟩:=bx ((if(Fx.tok D L i).kind =6 then(0:Int) else((S.size-(Fx.tok D L i).end'.length :Nat):Int)):Int)
     obtain⟨T3,tu⟩:=bx (⟨(Fx.tok D L i).text.toArray⟩:ByteArray)
     obtain⟨E3,wi⟩:=bx ((Fx.tok D L i).exp :Int)
     rw[<-tH,<-qv,<-kr,<-tu,<-wi] at B
     have j0:T3.data.toList=(Fx.tok D L i).text :=by rw[tu]
     obtain⟨Je,JN,QF,Uq,LJ,Qb,P',wS,QH,LG,Jg⟩:=VP B mn im CJ TI IL IF IY TF qv j0
     have Wg:=qx.size
     clear B mn im CJ TI IL IF IY TF tH qv kr tu wi j0 tj qx mP Di lE pQ gi aW O' f138 Mv tN nt dS MF
     go_upto_region 13 with (first|(go_at_call 92;refine cV Je.out ?_;rintro e pu ⟨rfl,Bd,G4⟩;obtain⟨P5,PZ⟩:=dY Bd G4;have Aw:=Bd.size;clear Bd G4))
     obtain⟨m,vX⟩:=bx (pu.alloc (Obj.cells #[.int .i64 K3,.int .i64 F3,.int .i64 N3,.string T3,.int .i64 E3] 77))
     have jl:Below pu.heap.size pu m:=by rw[vX];exact ek
     have cU:Cs m pu.heap.size [.int .i64 K3,.int .i64 F3,.int .i64 N3,.string T3,.int .i64 E3]:=by rw[vX];exact Cs.new pu _ _
     have Wl:z.heap.size<pu.heap.size:=by rw[i7] at Aw;omega
     have qy:Two p b z m:=((Two.of QF.out).trans (Two.onl P5.out)).trans (Two.of jl)
     have xP:=Qb.out.two qy aG aG
     have xO:=P'.out.two qy aG aG
     have IC:=PZ.out.on jl
     have I0:Two p b w m:=LJ.out.trans qy
     have RD:=qy.size
     have hg9:q<z.heap.size:=(wS.out.row.lt rfl).2
     have xS:=wS.out.kept (w':=m) (fun k c=>by
      have hb:w.heap.size+2<=k/\k<z.heap.size:=by
       rcases c with c|c
       ·have:=QH.out k c;omega
       ·exact wS.out.row.lt c
      exact qy.block k aG aG hb.2)
     obtain⟨Y,IT⟩:=bx (pu.heap.size)
     rw[<-vX]
     rw[<-IT] at cU ⊢
     have Ht:z.heap.size<Y:=aG
     have J3:=cU.get 1 rfl;have t2':=cU.get 2 rfl;have Vi:=cU.get 3 rfl;have tl:=cU.1
     obtain⟨pX,G,wJ,wU,Aj⟩:=qF xP xO IC I0 xS
     clear vX jl cU qy xP xO IC I0 xS IT Aw p0 g3
     have xv:(ks++[o]).length <=30:=by rw[j2,<-K.out];simp;omega
     have xd:=Aj.out.tree xv d
     have SJ: ∀ k,((A k∨H k)∨(Value.slice (some ⟨q,0,none⟩) (n+1) y).ownBlock =some k)->w.heap.size<=k/\k<m.heap.size/\k≠w.heap.size:=fun k c=>by
      rcases c with c|c
      ·have:=QH.out k c;omega
      ·have:=wS.out.row.lt c;omega
     obtain⟨tP,ug⟩:=dY xd SJ
     clear xd SJ xv
     cases VK with
     |false=>
      have x:r= .er 13 (Fx.tok D L i).at' :=by have:=p'.out;rw[show ∀ f,(Rs.ok o i).bind f=f o i from fun _=>rfl,bv (by simpa using JN.out)] at this;exact this.symm
      have P:=aL x
      have iX:=aL (fun W (hb:Below m.heap.size m W)=>Yq (wJ.out.on hb))
      have sy:=fx G.out
      have sw:=fx (show Nd m.drew (w.heap.size+1) _ from G.out)
      clear x
      go_upto_region 14 with (fail)
      go_region_held3 (fun w'=>(ox (.pointer (some ⟨w.heap.size+1,0,none⟩))).run prog w'= .ok (kag d (.slice (some ⟨q,0,none⟩) (n+1) y)) w')
       (first|go_keep|exact nt|exact sx|exact sy|exact sw)
       (first|(go_at_call 42;(with_reducible refine(iX.out _ dt).mono ?_);rintro e Ao ⟨rfl,E,qe⟩;have sx:=fx (G.out.of (E.block (w.heap.size+1) aG zv));have nt:=fx ((G.out.of (E.block (w.heap.size+1) aG zv)).other (C:=w.heap.size) aG (kag d (.slice (some ⟨q,0,none⟩) (n+1) y)));have fG:=pX.out.of (E.block w.heap.size aG zv);have GO:=jP fG (IsN.kag d (some ⟨q,0,none⟩) (n+1) y);have tY:=aL (fG.put (IsN.kag d (some ⟨q,0,none⟩) (n+1) y));obtain⟨xZ,DM⟩:=dY E qe;clear E qe fG))
      go_wp2_with fail
      refine lS results161 es es tY.out ?_
      rw[P.out]
      have Z:Two p b m Ao:=yed
      exact RetP.of (r:= .er 13 (Fx.tok D L i).at') (t:=Fx.nod 10 d.data.toList (ks++[o])) (tP.out.kept (fun _ h=>h) (fun k c=>by have:=ug.out k c;exact Z.block k aG aG this.2.1)) (fun k c=>by have:=ug.out k c;have:=Z.size;omega) (wU.out.trans Z) DM.out cm pl rfl
     |true=>
      have I:(Fx.tok D L i).kind =5/\((Fx.tok D L i).text =[41]∨(Fx.tok D L i).text =[L]):=by simpa using JN.out.symm
      have V:Ps m p g b D L S (Fx.tok D L i).end' (op+1):=wJ.out
      have aR:=Fx.oV I.1
      by_cases U:(Fx.tok D L i).text =[41]
      ·have x:r= .ok (Fx.nod 10 d.data.toList (ks++[o])) (Fx.tok D L i).end' :=by
        have:=p'.out;rw[show ∀ f,(Rs.ok o i).bind f=f o i from fun _=>rfl,bT I,bT U] at this;exact this.symm
       have e1:(T3.toList==[41])=true:=by rw[sT,Jg.out,U];rfl
       have p3:m.cell? ⟨p,3,none⟩=some (.int .i64 ((op:Int)+1)):=V.mem.get 3 rfl
       have pf:=V.mem.frozen 3
       have Vt:=V.mem.lt
       have Js:=aL V.setOpen
       have T: ∀ k,k≠p->(m.setCell ⟨p,3,none⟩ (.int .i64 op)).heap[k]? =m.heap[k]? :=fun k h1=>tF _ _ _ _ h1
       have kM:=pX.out.of (T w.heap.size aG)
       have mz:=G.out.of (T (w.heap.size+1) aG)
       have lF:=fx mz
       have dg:=jP kM (IsN.kag d (some ⟨q,0,none⟩) (n+1) y)
       have o9:=aL (kM.put (IsN.kag d (some ⟨q,0,none⟩) (n+1) y))
       have uN:=aL (show Two p b w (m.setCell ⟨p,3,none⟩ (.int .i64 op)) from wU.out.setL 3 _)
       obtain⟨P,ZX⟩:=dY x T
       clear I x V T kM mz aR U
       go_wp2_with fail
       refine lS results161 es es o9.out ?_
       rw[P.out]
       exact RetP.of (r:= .ok (Fx.nod 10 d.data.toList (ks++[o])) (Fx.tok D L i).end') (t:=Fx.nod 10 d.data.toList (ks++[o])) (tP.out.kept (fun _ h=>h) (fun k c=>ZX.out k (by have:=ug.out k c;omega))) (fun k c=>by have:=ug.out k c;rw[rX];exact this) uN.out ⟨rfl,Js.out⟩ cm pl rfl
      ·have e1:(T3.toList==[41])=false:=by
        rw[sT,Jg.out,gN];exact U
       have Yy:m.cell? ⟨w.heap.size+1,13,none⟩=some (.slice (some ⟨q,0,none⟩) (n+1) y):=G.out.ya2.get 13 rfl
       by_cases ro:n+1=30
       ·have x:r= .er 5 (Fx.tok D L i).at' :=by
         have:=p'.out;rw[show ∀ f,(Rs.ok o i).bind f=f o i from fun _=>rfl,bT I,bv U,bT (by rw[<-K.out];exact ro)] at this;exact this.symm
        have e2:((n:Int)+1==30)=true:=by rw[sb];omega
        have P:=aL x
        have ry:=aL (fun W (hb:Below m.heap.size m W)=>yb1 (wJ.out.on hb) 5 F3 (Fx.tok D L i).at' LG.out)
        have sy:=fx G.out
        have sw:=fx (show Nd m.drew (w.heap.size+1) _ from G.out)
        clear x I V aR U ro
        go_upto_region 19 with (fail)
        clear e2
        go_region_held3 (fun w'=>(ox (.pointer (some ⟨w.heap.size+1,0,none⟩))).run prog w'= .ok (kag d (.slice (some ⟨q,0,none⟩) (n+1) y)) w'/\w'.cell? ⟨Y,1,none⟩=some (.int .i64 F3))
         (first|go_keep|exact⟨nt,Xj⟩|exact⟨sx,Ij⟩|exact⟨sy,J3⟩|exact⟨sw,J3⟩)
         (first|(go_at_call 67;(with_reducible refine(ry.out _ dt).mono ?_);rintro e Ao ⟨rfl,E,qe⟩;have uq:=E.block Y aG zv;have Ij:Ao.cell? ⟨Y,1,none⟩=some (.int .i64 F3):=(sf (a:=⟨Y,1,none⟩) uq).trans J3;have Xj:(nput Ao w.heap.size (kag d (.slice (some ⟨q,0,none⟩) (n+1) y))).cell? ⟨Y,1,none⟩=some (.int .i64 F3):=(sf (a:=⟨Y,1,none⟩) (uz (by show ¬ Y=w.heap.size;omega) _)).trans Ij;have sx:=fx (G.out.of (E.block (w.heap.size+1) aG zv));have nt:=fx ((G.out.of (E.block (w.heap.size+1) aG zv)).other (C:=w.heap.size) aG (kag d (.slice (some ⟨q,0,none⟩) (n+1) y)));have fG:=pX.out.of (E.block w.heap.size aG zv);have GO:=jP fG (IsN.kag d (some ⟨q,0,none⟩) (n+1) y);have tY:=aL (fG.put (IsN.kag d (some ⟨q,0,none⟩) (n+1) y));obtain⟨xZ,DM⟩:=dY E qe;clear E qe fG uq))
        go_wp2_with fail
        refine lS results161 es es tY.out ?_
        rw[P.out]
        have Z:Two p b m Ao:=yed
        exact RetP.of (r:= .er 5 (Fx.tok D L i).at') (t:=Fx.nod 10 d.data.toList (ks++[o])) (tP.out.kept (fun _ h=>h) (fun k c=>by have:=ug.out k c;exact Z.block k aG aG this.2.1)) (fun k c=>by have:=ug.out k c;have:=Z.size;omega) (wU.out.trans Z) DM.out cm pl rfl
       ·have tc:Fx.yG D L (op+1) d.data.toList (ks++[o]) (Fx.tok D L i).end' =r:=by
         have:=p'.out;rw[show ∀ f,(Rs.ok o i).bind f=f o i from fun _=>rfl,bT I,bv U,bv (by rw[<-K.out];exact ro)] at this;exact this
        have e2:((n:Int)+1==30)=false:=by rw[gN];omega
        have Ho:(ks++[o]).length =n+1:=by rw[j2,<-K.out];rfl
        have jh:yfr p g b D L S op l d w r m:=⟨ks++[o],(Fx.tok D L i).end',_,xs++cs,fun k=>A k∨H k,tc,wJ.out,G.out,pX.out,wU.out,Aj.out,fun k c=>by have:=QH.out k c;exact⟨this.1,by omega,this.2.2⟩,by omega,by omega⟩
        have xq:yr S p (.bool true) m<yr S p (.bool true) wr:=by rw[Oq tU.out,Oq V];omega
        obtain⟨tW,JG⟩:=dY jh xq
        clear tc Ho jh xq I V aR U ro
        go_wp2_with fail
        exact⟨tW.out,JG.out⟩
    ·rw[ef]
     have x:r= .er x1 Aq:=by have:=JW.out;rw[er] at this;exact this.symm
     have lF:=fx wN.out
     have dg:=jP tZ.out (IsN.kag d O n M)
     have dy:=aL (tZ.out.put (IsN.kag d O n M))
     have P:=aL x
     have Th:Pe s p g b D L S x1 Aq:=by have:=Ac.out;rw[er] at this;exact this
     have ZS:=aL Th
     clear x Th er
     go_wp2_with fail
     refine lS results161 es es dy.out ?_
     rw[P.out]
     refine RetP.of (r:= .er x1 Aq) (t:=Fx.nod 10 d.data.toList ks) (JX.out.tree (by have:=K.out;omega) d) (fun k c=>?_) (uJ.out.trans QL.out) ZS.out cm pl rfl
     rcases c with c|c
     ·have:=HA.out k c;omega
     ·have:=mD.out k c;omega
end
end Go.Proofs.YtilbpmimoijfhaaGreatDoor
