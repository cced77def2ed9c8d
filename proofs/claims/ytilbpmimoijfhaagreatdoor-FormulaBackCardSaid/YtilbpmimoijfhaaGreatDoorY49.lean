/- The statement FormulaBack (printed by gen/mkl92.py). -/
import Derived.Test.YtilbpmimoijfhaaGreatDoorY48
namespace Go.Proofs.YtilbpmimoijfhaaGreatDoor
set_option linter.all false
set_option maxRecDepth 100000
set_option maxHeartbeats 16000000
open Go.RowKit Go.Proofs.Tryz
section
open Fx (Tr)
attribute [local go_sem ↓] qh qn We Wy LP yaS
namespace Fx
def yrV {s:List UInt8} (h:0<eT s):s.length<=1000:=by
 unfold eT at h;have: ∀ l:List UInt8,l.length<=1000->s=l->s.length<=1000:=fun l hl e=>by rw[e];exact hl
 split at h
 ·rename_i e;rcases e with e|e|e|e|e|e<;>exact this _ bL e
 split at h
 ·rename_i e;exact this _ bL e
 split at h
 ·rename_i e;rcases e with e|e<;>exact this _ bL e
 split at h
 ·rename_i e;rcases e with e|e<;>exact this _ bL e
 split at h
 ·rename_i e;exact this _ bL e
 ·omega
def ypr {t:Tr} (h:g8 t=true):t.txt.length<=1000:=by
 have a: ∀ {s:List UInt8},(s==[])=true->s.length<=1000:=fun {s} e=>by rw[eq_of_beq e];decide
 unfold g8 at h;simp only[fs] at h;obtain⟨-, -, -, -, -,h⟩:=h;split at h
 ·simp only[fs] at h;exact a h.2.1
 split at h
 ·simp only[fs,kF] at h;exact h.1
 split at h
 ·simp only[fs] at h;exact a h.1
 split at h
 ·simp only[fs] at h;exact a h.2.2.1
 split at h
 ·simp only[fs] at h;exact a h.2.1
 split at h
 ·simp only[fs] at h;exact a h.2.2.1
 split at h
 ·simp only[fs,S6] at h;rcases h.1 with e|e<;>(rw[eq_of_beq e];decide)
 split at h
 ·simp only[fs,kF] at h;exact yrV h.1
 split at h
 ·simp only[fs] at h;rw[eq_of_beq h.1];decide
 split at h
 ·simp only[fs] at h;have b:=h.1;unfold oF at b;split at b
  ·cases b
  ·rename_i c s e
   simp only[fs,kF] at b;rw[e];omega
 ·cases h
mutual
def ykS: ∀ t:Tr,hG t=true->tmax t<=1000
 | .mk k x s i f a b ks,h=>by rw[hG,fs] at h;have d:=ypr h.1;have c:=yjG ks h.2;rw[tmax];exact Nat.max_le.2 ⟨d,c⟩
def yjG: ∀ ks:List Tr,jz ks=true->uL ks<=1000
 | [],_=>by rw[uL];omega
 |k::ks,h=>by rw[jz,fs] at h;have b:=ykS k h.1;have a:=yjG ks h.2;rw[uL];exact Nat.max_le.2 ⟨b,a⟩
end
def yrb {t:Tr} (h:right t=true):tmax t<=9223372036854775807:=by unfold right at h;simp only[fs] at h;exact dE (ykS t h.2.2) bL
end Fx
def ywg {W:World} {lo:Nat} {X:Value} {t:Tr} (hx:TreeV W lo X t) (hm:Fx.tmax t<=9223372036854775807):Calls prog 12 #[X] W (RetB (.bool (Fx.right t)) W):=by obtain⟨A,h,b⟩:=hx;obtain⟨u,rfl,a⟩:=h.at b;exact Y5 t u _ _ W a cm hm
def yov {w W:World} {lo:Nat} {X:Value} {t:Tr} {u:Value} (hx:TreeV W lo X t) (c:TreeAt w 0 w.heap.size t u) (hb:Below w.heap.size w W):Calls prog 22 #[X,trv t u] W (RetB (.bool true) W):=by obtain⟨A,h,d⟩:=hx;obtain⟨a,rfl,b⟩:=h.at d;exact ygj _ t a u _ _ _ _ W cm b (c.below hb cm) cm hb.size
def yoC (t:Tr) (u:Value) (s:ByteArray) (n:Int) (hz:s.size<=9223372036854775807) (hn: -9223372036854775808<=n/\n<=9223372036854775807) (w:World) (o:TreeAt w 0 w.heap.size t u) (Q:Fx.tmax t<=9223372036854775807) (hs:Bs w) (hv:Vars w):
 Calls prog 5 #[trv t u,.string s,.int .i64 n] w (RetB (.bool true) w):=by
 refine ybo ?_;intro fh;have y:=fun(W:World) (hW:Below w.heap.size w W)=>yiA t u 0 w.heap.size W (o.below hW cm) hW.size;obtain⟨B,re⟩: ∃ x,x=Fx.ybv t:=⟨_,rfl⟩;rw[<-re] at y;by_cases NO:B=true/\s.size<=1000
 ·obtain⟨rfl,aH⟩:=NO;have Y:decide ((1000:Int)<(s.size:Int))=false:=eL aG;obtain⟨D,L,J,sF⟩:=ycQ n hn;have T:=fun(W:World) (hW:Below w.heap.size w W)=>Y5 t u 0 w.heap.size W (o.below hW cm) hW.size Q;have ny:=fun(W:World) (hW:Below w.heap.size w W)=>sF W (hv.on hW);have P:=fun(W:World) (g b v b2:Nat) (S:St w W g b v b2 D L)=>ydY hs S o Q;have GL:=fun(W:World) (lo:Nat) (X:Value) (hx:TreeV W lo X t) (hW:Below w.heap.size w W)=>yov hx o hW;obtain⟨l,CI⟩: ∃ x:ByteArray,x=⟨(Fx.print D L t).toArray⟩:=⟨_,rfl⟩;rw[<-CI] at P;have O:l.data.toList=Fx.print D L t:=by rw[CI]
  have ni:Fx.right t=true->l.size<=1000-> ∀ (W:World) (g b v b2:Nat) (_:St w W g b v b2 D L),Calls prog 21 #[.pointer (some ⟨g,0,none⟩),.string l] W (fun e w'=> ∃ X,e= .returned (.tuple #[X,.int .i64 0,.int .i64 0])/\TreeV w' W.heap.size X t/\Onl b W w'/\Rdr w' b):=fun f hl W g b v b2 S=>
   IB J S (dE hl bL) (by rw[O];exact Fx.Q9 J f (by rw[<-O,dN];exact hl))
  have oJ:l.toList.isEmpty=!Fx.right t:=by
   have j:=Fx.yqg J t;rw[<-O] at j;have M:l.toList.isEmpty=l.data.toList.isEmpty:=by rw[sT]
   rw[M]
   cases f:Fx.right t with
   |true=>rw[f] at j;simpa using j.1 rfl
   |false=>rw[f] at j;simpa using j
  have RP:=Fx.ybr D L s.data.toList;obtain⟨N,wb⟩: ∃ x,x=Fx.right t:=⟨_,rfl⟩;rw[<-wb] at T ni oJ;obtain⟨K,X,TT,I,F,a1,a2,a3,a4,b1,b2,b3,b4,a,m,c,rfl,aK, -, -, -, -, -⟩:=o.flat;refine yex ?_;intro eo;rw[aK] at T y P GL ⊢;obtain⟨W0,dF⟩: ∃ W,W=w.alloc (.cells #[.int .i64 K,.int .u64 X,.string TT,.bool I,.int .i64 F,.int .i64 a1,.int .i64 a2,.bool a3,.bool a4,.int .i64 b1,.int .i64 b2,.bool b3,.bool b4,.slice a m c] 27):=⟨_,rfl⟩;have H:Below w.heap.size w W0:=Km;have u9:W0.heap.size=w.heap.size+1:=by rw[dF];simp
  rw[<-dF] at eo;obtain⟨fQ,oc,rs,HN,HB,HW,pZ,PY,r,Zz,HEM,Zm,ZI,LC,Lw⟩:=ynH fh T y eo H dF ny P hs ni oJ GL RP J hz;clear fh T y eo H dF aK o hs hv Q re sF ny P ni oJ GL RP J CI O hz wb aH;go_enter func5,ntmps5
  go_upto_region 1 with (fail)
  rw[<-HW.out];go_upto_if 57 with (first|(go_at_call 8;refine cp (fQ.out _ HB.out) ?_;intro w1 aw;have cH:=aw.size;have y1:=fx (HN.out.on aw);have bd:=HB.out.trans (aw.mono HB.out.size);have ph:=aL (HN.out.on aw))|(go_at_call 16;refine cp (rs.out _ bd) ?_;intro w2 hb2;have eK:=hb2.size;have ku:=aL (ph.out.on hb2);have aP:=bd.trans (hb2.mono bd.size))|(go_at_call 17;refine cV (pZ.out _ aP) ?_;rintro e w3 ⟨bz,uX,wu,uZ,ww,uW,tK,uY,tM,fi,sp,fj,sq,kz,zz,rfl,aU⟩;refine yc8 ?_;intro fb X3 Y3 wX F0 mL mR bY zY;have cL:=aP.trans (aU.mono aP.size);have pn:=aL (cL.trans (bY.mono cL.size));have t8:=aL ((ku.out.on aU).on bY);have x1:=zS mL rfl;clear mL mR bY)|(go_at_call 18;refine cV (RW r.out _ _ _ _ _ _ _ _ _ D L _ pn.out) ?_;rintro e w4 ⟨g,b,v,c2,rfl,hg,hb,gU,dh,S4,cD⟩;have Jj:=aL S4;have l1:Y3.heap.size<=b:=hb;have l2:Y3.heap.size<=c2:=dh;have m1:b<w4.heap.size:=S4.fw.fo.rd.lt;have m2:c2<w4.heap.size:=S4.fw.wr.rd.lt;have ic:=aL (t8.out.on cD);have y4:=fx ic.out;clear S4 cD)|(go_at_call 12;refine cp (oc.out _ Jj.out.bl) ?_;intro w5 V;have kA:=V.size;have pV:=aL (Jj.out.on V);have mU:=aL (ic.out.on V);have y5:=fx mU.out;clear V)|(go_at_call 19;refine cV (PY.out _ g b v c2 pV.out) ?_;rintro e w6 ⟨rfl,U,mI⟩;have Mw:=U.size;have mT:=aL (pV.out.print r.out U mI);have kh:=aL (mU.out.onl U aG);clear U mI))
  rw[show(!(N==!l.toList.isEmpty))=false by rw[HEM.out];cases N<;>rfl];obtain⟨TB,SW⟩: ∃ x,x=(N&&decide ((l.size:Int)<=1000)):=⟨_,rfl⟩;have PB:=aL SW;clear SW;go_upto_region 11 with (fail)
  go_cut [63] (fun tv wc=>tv= .bool TB/\wc=w6)
  case first=>
   cases N with
   |false=>go_wp2_with fail;go_meet;exact⟨by rw[PB.out];rfl,rfl⟩
   |true=>go_wp2_with fail;go_meet;exact⟨by rw[PB.out];simp,rfl⟩
  case rest=>as_aux_lemma=>
  obtain⟨rfl,hw⟩:=hcut;rw[hw];clear hw;go_upto_if 63 with (fail)
  go_cut [11] (fun gv wc=>gv= .pointer (some ⟨g,0,none⟩)/\Hid (St w wc g b v c2 D L))
  case first=>
   cases TB with
   |false=>go_wp2_with fail;go_meet;exact⟨rfl,mT⟩
   |true=>
    have j:=PB.out
    have M:N=true/\l.size<=1000:=by have:=j.symm;rw[fs,kF] at this;exact⟨this.1,by omega⟩
    have PW:=aL (Zz.out M.1 M.2)
    clear j M
    go_wp2_with (first|(go_at_call 21;refine cV (PW.out _ _ _ _ _ mT.out) ?_;rintro e w7 ⟨X7,rfl,i,d,f⟩;obtain⟨cs,q⟩:=i.isN;obtain⟨Z7,FZ,nd,bZ,Fd⟩:=Dd w7 q;have u7:=d.size;have mS:=aL ((mT.out.parse r.out d f).on bZ);have nH:=aL (i.on bZ);obtain⟨nO,Aa,HZ7⟩:=iJ nd d bZ;have DT:=aL ((kh.out.onl d aG).on bZ);have y7:=fx nd;have y8:=fx DT.out;clear i d f q nd bZ)|(go_at_call 22;refine cp (Zm.out _ _ _ nH.out mS.out.bl) ?_;intro w8 pO;have J8:=pO.size;have Ji:=aL (mS.out.on pO);clear pO))
    go_meet
    exact⟨rfl,Ji⟩
  case rest=>as_aux_lemma=>
   obtain⟨rfl,z⟩:=hcut;rcases ZI.out with ⟨E,A⟩|⟨x,p,A,hx,nj⟩
   ·have R:=(Fx.ygQ A).1;have AD:=Fx.yrb R;have RO:=fun(W:World) (g b v b2:Nat) (S:St w W g b v b2 D L)=>IB LC.out S Lw.out A;have MN:=fun(W:World) (lo:Nat) (X:Value) (hx:TreeV W lo X E)=>ywg hx AD;have MZ:=fun(W:World) (g b v b2 lo:Nat) (X:Value) (S:St w W g b v b2 D L) (hx:TreeV W lo X E) (dp:b2<lo)=>yvs r.out S hx dp AD;obtain⟨C,OB⟩: ∃ x:ByteArray,x=⟨(Fx.print D L E).toArray⟩:=⟨_,rfl⟩;rw[<-OB] at MZ;have oP:C.data.toList=Fx.print D L E:=by rw[OB]
    have Eo:C.size<=1000-> ∀ (W:World) (g b v b2:Nat) (_:St w W g b v b2 D L),Calls prog 21 #[.pointer (some ⟨g,0,none⟩),.string C] W (fun e w'=> ∃ X,e= .returned (.tuple #[X,.int .i64 0,.int .i64 0])/\TreeV w' W.heap.size X E/\Onl b W w'/\Rdr w' b):=fun hl W g b v b2 S=>
     IB LC.out S (dE hl bL) (by rw[oP];exact Fx.Q9 LC.out R (by rw[<-oP,dN];exact hl))
    rw[R] at MN;obtain⟨ZF,Zt,ZD,Zy⟩:=jv RO MN MZ Eo;clear RO MN MZ Eo OB oP R AD A;go_upto_region 21 with (first|(go_at_call 21;refine cV (ZF.out _ _ _ _ _ z.out) ?_;refine SU ?_;intro w9 X9 i d f cs q Z9 LY nd bZ LQ;have As:=d.size;have tR:=aL ((z.out.parse r.out d f).on bZ);have EU:=aL (i.on bZ);obtain⟨wM,Jz,Y9⟩:=iJ nd d bZ;have y9:=fx nd;have Hs:b<wc.heap.size:=z.out.fw.fo.rd.lt;have Hr:c2<wc.heap.size:=z.out.fw.wr.rd.lt;clear i d f q nd bZ)|(go_at_call 12;refine cp (Zt.out _ _ _ EU.out) ?_;intro JZ G;have VR:=G.size;have tS:=aL (tR.out.on G);have wC:=aL (EU.out.on G);have wO:=aL (wM.out.on G);have y10:=fx wO.out;clear G)|(go_at_call 19;refine cV (ZD.out _ g b v c2 _ _ tS.out wC.out Hr) ?_;rintro e pu ⟨rfl,d,f⟩;have Aw:=d.size;have qD:=aL (tS.out.print r.out d f);have DH:=aL (wC.out.onl d Hr);have Qd:=aL (wO.out.onl d aG);clear d f))
    by_cases j:C.size<=1000
    ·have d3:decide ((1000:Int)<(C.size:Int))=false:=eL aG;have PP:=aL (Zy.out j);clear j;go_wp2_with (first|(go_at_call 21;refine cV (PP.out _ _ _ _ _ qD.out) ?_;refine SU ?_;intro JY YD i d f cs q kd Vk nd bZ UK;have Ri:=d.size;have Jk:=aL ((qD.out.parse r.out d f).on bZ);have PC:=aL (i.on bZ);obtain⟨ZP,ZL,Y'⟩:=iJ nd d bZ;have QI:=aL ((DH.out.onl d aG).on bZ);have Qf:=aL ((Qd.out.onl d aG).on bZ);have y12:=fx nd;have y13:=fx Qf.out;clear i d f q nd bZ)|(go_at_call 22;refine cp (ygf PC.out QI.out) ?_;intro QW ta))
     go_ret
     exact RetB.of rfl (Jk.out.bl.trans (ta.mono Jk.out.bl.size))
    ·have d3:decide ((1000:Int)<(C.size:Int))=true:=fv aG;clear j;go_wp2_with fail
     go_ret
     exact RetB.of rfl qD.out.bl
   ·have mg:=fun(W:World) (g b v b2:Nat) (S:St w W g b v b2 D L)=>W1 LC.out S Lw.out A;have ZH:=aL mg;have x1:(x==0)=false:=by simp[hx]
    have x2:(x != 0)=true:=by simp[hx]
    rw[dN] at nj;have x3:decide ((0:Int)<=(p:Int))=true:=fv aG;have x4:decide (p<=s.size)=true:=fv aG;clear mg A hx nj;go_wp2_with (first|(go_at_call 21;refine cV (ZH.out _ _ _ _ _ z.out) ?_;refine SU ?_;intro w9 X9 i d f cs q Z9 LY nd bZ LQ;have As:=d.size;have tR:=aL ((z.out.parse r.out d f).on bZ);have EU:=aL (i.on bZ);obtain⟨wM,Jz,Y9⟩:=iJ nd d bZ;have k9:=yiI EU.out wM.out;clear i d f q nd bZ))
    go_ret
    exact RetB.of rfl tR.out.bl
 ·have hl:B=false∨B=true/\1000<s.size:=by
   cases B with
   |false=>exact .inl rfl
   |true=>exact .inr ⟨rfl,Nat.lt_of_not_le fun h=>NO ⟨rfl,h⟩⟩
  have Y:B=true->decide ((1000:Int)<(s.size:Int))=true:=fun e=>fv (by
   rcases hl with h|h
   ·rw[h] at e;cases e
   ·omega)
  obtain⟨K,X,TT,I,F,a1,a2,a3,a4,b1,b2,b3,b4,a,m,c,rfl,aK, -, -, -, -, -⟩:=o.flat;refine yex ?_;intro eo;rw[aK] at y ⊢;obtain⟨W0,dF⟩: ∃ W,W=w.alloc (.cells #[.int .i64 K,.int .u64 X,.string TT,.bool I,.int .i64 F,.int .i64 a1,.int .i64 a2,.bool a3,.bool a4,.int .i64 b1,.int .i64 b2,.bool b3,.bool b4,.slice a m c] 27):=⟨_,rfl⟩;have H:Below w.heap.size w W0:=Km;have u9:W0.heap.size=w.heap.size+1:=by rw[dF];simp
  rw[<-dF] at eo;obtain⟨fQ,rs,HN,HB,HW,HD⟩:=ts fh y eo H dF Y;clear fh y eo H dF aK o hs hv Q re NO hl Y
  cases B with
  |false=>exact ylh
  |true=>
   have Y:=HD.out rfl
   exact ylh
end
end Go.Proofs.YtilbpmimoijfhaaGreatDoor
