/- Formulas: a number is cut off the front, by the program. -/
import Derived.Test.YtilbpmimoijfhaaGreatDoorY19
namespace Go.Proofs.YtilbpmimoijfhaaGreatDoor
set_option linter.all false
set_option maxRecDepth 100000
set_option maxHeartbeats 16000000
open Go.RowKit Go.Proofs.Tryz
def ywO (p g:Nat) (D L:UInt8) (s:ByteArray) (at':Nat) (w:World) (hS:Sg w p g D L) (hE:EvR w) (hz:s.size<=1000000000) (ha:at'<=1000000000):
 Calls prog 62 #[.pointer (some ⟨p,0,none⟩),.string s,.int .i64 at'] w (RetB (tkv 1 at' (at'+(s.size-(Fx.ou D s.data.toList).end'.length :Nat)) ⟨(Fx.ou D s.data.toList).text.toArray⟩ (Fx.ou D s.data.toList).exp) w):=by
 obtain⟨v,hv⟩:=bx (tkv 1 at' (at'+(s.size-(Fx.ou D s.data.toList).end'.length :Nat)) ⟨(Fx.ou D s.data.toList).text.toArray⟩ (Fx.ou D s.data.toList).exp);rw[<-hv];have bJ:=fun w=>R8 s w aG;obtain⟨H,hH⟩:=bx (⟨(s.data.toList.takeWhile Dc.cu).toArray⟩:ByteArray);rw[<-hH] at bJ;obtain⟨n,v8⟩:=bx (s.extract H.size s.size:ByteArray);have KW:H.data.toList=s.data.toList.takeWhile Dc.cu:=by rw[hH]
 have J:=dZ List.length (sI (p:=Dc.cu) (l:=s.data.toList));rw[j2,dN,<-KW,dN] at J;have hHs:H.size<=s.size:=aG
 have CA:n.data.toList=s.data.toList.dropWhile Dc.cu:=by rw[v8,vL,<-dN H,KW];exact yf0 _ _
 have Iz:n.size=s.size-H.size:=by rw[<-dN,CA];omega
 have A: ∀ w:World,(Instr.slice 9 (.string s) (some (.int .i64 (H.size:Int))) none none).run prog w= .ok (.string n) w:=fun w=>by rw[zi w _ s .i64 _ underlying9,bT aG,v8];congr 3
 obtain⟨q0,q1,q3,pl,gl⟩:=hS;have hcut:=fun(w:World)=>strings_CutPrefix n ⟨#[D]⟩ w;obtain⟨HR,HV,HH,Z8,wF,DL⟩:=ts bJ hv hH KW CA Iz;obtain⟨R,hR⟩:=bx (⟨(Lib.trimPrefix n.data.toList [D]).toArray⟩:ByteArray);obtain⟨o,ho⟩:=bx (Lib.hasPrefix n.data.toList [D]);replace hcut: ∀ w:World,Calls prog 60 #[.string n,.string ⟨#[D]⟩] w (Ret0 (.tuple #[.string R,.bool o]) w):=fun w=>(hcut w).mono fun e w' ⟨e1,e2⟩=>⟨by rw[e1,hR,ho],e2.symm⟩;obtain⟨HC,ru,HO,Qv⟩:=jv hcut hR ho hE;clear bJ hv hH KW CA v8 Iz hcut hR ho J hE;go_enter func62,ntmps62
 go_upto_if 45 with (first|(go_at_call 61;refine cp (HR.out _) ?_;refine wv ?_;intro w1 ab ao ay az af;obtain⟨ai,am,al,aj,ag,ap⟩:=own6 ab (p);obtain⟨be,bh,bg,bf,aV,ci⟩:=own6 ab (g);obtain⟨jR,mi,mh,me,mc,mq⟩:=own6 ab (w.heap.size))|(go_at_call 60;refine cY (HC.out _) ?_))
 obtain⟨g7,uv⟩:=bx (w1.heap.size);obtain⟨X,hX⟩:=bx (w1.alloc (Obj.cells #[.int .i64 1,.int .i64 at',.int .i64 ((at':Int)+(H.size:Int)),.string H,.int .i64 0] 77));have b1:Below w.heap.size w w1:=ao;have I3:CF X w.heap.size [.int .i64 0,.int .i64 0,.int .i64 0,.string ⟨#[]⟩,.int .i64 0]:=by rw[hX];exact((CF.new w _ _).on ab).alloc _
 have i:CF X g7 [.int .i64 1,.int .i64 at',.int .i64 ((at':Int)+(H.size:Int)),.string H,.int .i64 0]:=by rw[hX,uv];exact CF.new w1 _ _
 have bX:Below w.heap.size w X:=by rw[hX];exact ao.alloc ao.size _
 have sX:Sg X p g D L:=(Sg.mk q0 q1 q3 pl gl:Sg w p g D L).on bX;have n1:w.heap.size<g7:=by rw[uv];exact jR
 have n2:p<g7:=by rw[uv];exact ai
 have n3:g<g7:=by rw[uv];exact be
 have n4:g7<X.heap.size:=i.1.1;rw[<-hX,<-uv];obtain⟨f,my⟩:=bx (⟨(Fx.mant D s.data.toList).2.2.toArray⟩:ByteArray);obtain⟨TX,uB⟩:=bx (⟨(Fx.mant D s.data.toList).1.toArray⟩:ByteArray);obtain⟨PL,KO⟩:=bx ((Fx.mant D s.data.toList).2.1 :Nat);have su:=Fx.ytv D s.data.toList;have XC:f.size<=s.size:=by rw[my,nm];rw[dN] at su;exact su
 obtain⟨qC,pU,wH,BX⟩:=jv my uB KO bX;clear my uB KO su hX uv ay az ab ao af b1 ai be jR am bh mi al bg mh aj bf me ag aV mc ap ci mq q0 q1 q3;go_cut [1] (fun sv w'=>sv= .string f/\Hid (CF w' w.heap.size [.int .i64 0,.int .i64 0,.int .i64 0,.string ⟨#[]⟩,.int .i64 0])/\Hid (CF w' g7 [.int .i64 1,.int .i64 at',.int .i64 ((at':Int)+((s.size:Int)-(f.size:Int))),.string TX,.int .i64 (-(PL:Int))])/\Hid (Below w.heap.size w w'))
 case first=>
  rcases ydN D n.data.toList with ⟨e1,e2,e3⟩|⟨r,e1,e2,e3,e4⟩
  ·have hm:Fx.mant D s.data.toList=(s.data.toList.takeWhile Dc.cu,0,s.data.toList.dropWhile Dc.cu):=by
    unfold Fx.mant;rw[<-wF.out,e1]
   have I:f=n:=by rw[qC.out,hm,<-wF.out,zH]
   have G:TX=H:=by rw[pU.out,hm,HH.out]
   have F:PL=0:=by rw[wH.out,hm]
   have g4:o=false:=by rw[HO.out,e2]
   have C:(at':Int)+((s.size:Int)-(n.size:Int))=(at':Int)+(H.size:Int):=by have:=DL.out;omega
   subst g4;have O:Hid (f=n/\TX=H/\PL=0/\(at':Int)+((s.size:Int)-(n.size:Int))=(at':Int)+(H.size:Int)):=aL ⟨I,G,F,C⟩;obtain⟨F6,F7⟩:=dY I3 i;clear I G F C hm e1 e2 e3 I3 i;go_wp2
   go_meet;obtain⟨I,G,F,C⟩:=O.out;exact⟨by rw[I],F6,aL (by rw[I,G,F,C];exact F7.out),BX⟩
  ·obtain⟨M,hM⟩:=bx (⟨(r.takeWhile Dc.cu).toArray⟩:ByteArray);have ko:=DL.out;have KK:R=⟨r.toArray⟩:=by rw[ru.out,e4]
   have kL:R.size=r.length:=by rw[KK,nm]
   have En:r.length+1=n.size:=by rw[<-dN,e2];rfl
   have EP:M.data.toList=r.takeWhile Dc.cu:=by rw[hM]
   have J:=dZ List.length (sI (p:=Dc.cu) (l:=r));rw[j2,<-EP,dN] at J
   have hm:Fx.mant D s.data.toList=(s.data.toList.takeWhile Dc.cu++r.takeWhile Dc.cu,(r.takeWhile Dc.cu).length,r.dropWhile Dc.cu):=by unfold Fx.mant;rw[<-wF.out,e1]
   have I:f=⟨(r.dropWhile Dc.cu).toArray⟩:=by rw[qC.out,hm]
   have Yl:f.size=(r.dropWhile Dc.cu).length :=by rw[I,nm]
   have G:TX=H++M:=by rw[pU.out,hm,HH.out,hM];apply ByteArray.ext;apply M1;simp[ByteArray.data_append]
   have F:PL=M.size:=by rw[wH.out,hm,<-dN M,EP]
   have g4:o=true:=by rw[HO.out,e3]
   have xh: ∀ W,Calls prog 61 #[.string R] W (RetB (.string M) W):=fun W=>by have:=R8 R W aG;rw[KK] at this ⊢;rw[hM];exact this
   have iI: ∀ w:World,(Instr.slice 9 (.string R) (some (.int .i64 (M.size:Int))) none none).run prog w= .ok (.string f) w:=fun w=>by rw[zi w _ R .i64 _ underlying9,bT aG];congr 2;rw[show(M.size:Int).toNat =M.size by omega,I,<-zH (R.extract M.size R.size),vL];congr 2;rw[KK,<-dN M,EP];exact yf0 _ _
   have C:(at':Int)+((s.size:Int)-(f.size:Int))=(at':Int)+(H.size:Int)+(1+(M.size:Int)):=aG;have l1:M.size<=1000000000:=aG;have l2:H.size<=1000000000:=aG;subst g4;have O:Hid (TX=H++M/\PL=M.size/\(at':Int)+((s.size:Int)-(f.size:Int))=(at':Int)+(H.size:Int)+(1+(M.size:Int))):=aL ⟨G,F,C⟩;obtain⟨F6,F7⟩:=dY I3 i;obtain⟨x0,x1,x3,xp,xg⟩:=sX;have lQ:=aL xh;have y0:=i.1.get 0 rfl;have y1:=i.1.get 1 rfl;have y2:=i.1.get 2 rfl;have y3:=i.1.get 3 rfl;have y4:=i.1.get 4 rfl;have z0:=i.2 0;have z1:=i.2 1;have z2:=i.2 2;have z3:=i.2 3;have z4:=i.2 4;have Q7: ¬ p=g7:=aG;have nn2: ¬ g7=p:=aG;have Q6: ¬ g=g7:=aG;have nn4: ¬ g7=g:=aG;clear ko I Yl G F C hm e1 e2 e3 e4 I3 i hM EP KK kL En J xh A;go_upto_region 9 with (first|(go_at_call 61;refine cp (lQ.out _) ?_;intro w2 aa;obtain⟨aI,aO,aN,ah⟩:=g9 (X) aa;(try simp only[fO,gz,fY,gt] at ah);obtain⟨aA,aF,aE,aD,au,aJ⟩:=own6 aa (p);obtain⟨bA,bE,bD,bC,aZ,bW⟩:=own6 aa (g);obtain⟨gG,gD,gB,gy,gm,gJ⟩:=own6 aa (g7)))
   obtain⟨Y,hY⟩:=bx ((w2.setCell ⟨g7,3,none⟩ (.string (H++M))).setCell ⟨g7,4,none⟩ (.int .i64 (-(M.size:Int))));have c2:=F7.out.on aa
   have d7:CF Y g7 [.int .i64 1,.int .i64 at',.int .i64 ((at':Int)+(H.size:Int)),.string (H++M),.int .i64 (-(M.size:Int))]:=by rw[hY];exact⟨(c2.1.put1 3 cn _).put1 4 cn _,fun o=>(qj ..).trans ((qj ..).trans (c2.2 o))⟩
   have d6:CF Y w.heap.size [.int .i64 0,.int .i64 0,.int .i64 0,.string ⟨#[]⟩,.int .i64 0]:=by rw[hY];have aq:w.heap.size≠g7:=aG;have c6:=F6.out.on aa;exact⟨(c6.1.off aq 3 _).off aq 4 _,fun o=>(qj ..).trans ((qj ..).trans (c6.2 o))⟩
   have bY:Below w.heap.size w Y:=by rw[hY];exact((BX.out.trans (aa.mono BX.out.size)).setCell (p:=⟨g7,3,none⟩) (lY n1) _).setCell (p:=⟨g7,4,none⟩) (lY n1) _
   have v0:Y.cell? ⟨p,0,none⟩=some (.pointer (some ⟨g,0,none⟩)):=by rw[hY,Mem.yad (b:=⟨p,0,none⟩) (a:=⟨g7,4,none⟩) Q7,Mem.yad (b:=⟨p,0,none⟩) (a:=⟨g7,3,none⟩) Q7,au,x0]
   have v1:Y.cell? ⟨g,1,none⟩=some (.string ⟨#[D]⟩):=by rw[hY,Mem.yad (b:=⟨g,1,none⟩) (a:=⟨g7,4,none⟩) Q6,Mem.yad (b:=⟨g,1,none⟩) (a:=⟨g7,3,none⟩) Q6,aZ,x1]
   have vp:p<Y.heap.size:=by rw[hY,rX,rX];exact aA
   have vg:g<Y.heap.size:=by rw[hY,rX,rX];exact bA
   rw[<-hY];refine xk ?_;intro y2 z2 yl;obtain⟨D7,D6,BY⟩:=iJ d7 d6 bY;clear hY c2 d7 d6 bY y0 y1 y2 y3 y4 z0 z1 z3 z4 x0 x1 x3 xp xg aO aN aa aI ah aA bA gG aF bE gD aE bD gB aD bC gy au aZ gm aJ bW gJ;have y2:=D7.out.1.get 2 rfl;have z2:=D7.out.2 2;go_region
   all_goals(try go_wp2)
   all_goals
    go_meet
    obtain⟨G,F,C⟩:=O.out
    refine⟨rfl,aL ?_,aL ?_,aL ?_⟩
    ·have aq:w.heap.size≠g7:=aG
     exact(⟨D6.out.1.off aq 2 _,fun o=>(qj ..).trans (D6.out.2 o)⟩:CF (Y.setCell ⟨g7,2,none⟩ (.int .i64 ((at':Int)+(H.size:Int)+(1+(M.size:Int))))) w.heap.size _)
    ·rw[G,F,C]
     exact(⟨D7.out.1.put1 2 cn _,fun o=>(qj ..).trans (D7.out.2 o)⟩:CF (Y.setCell ⟨g7,2,none⟩ (.int .i64 ((at':Int)+(H.size:Int)+(1+(M.size:Int))))) g7 _)
    ·exact(BY.out.setCell (p:=⟨g7,2,none⟩) (lY n1) _).drew
 case rest=>as_aux_lemma=>
  obtain⟨rfl,h6,h7,fe⟩:=hcut;obtain⟨Z,rfl⟩:=bx (wc:World);have Iy:f.data.toList=(Fx.mant D s.data.toList).2.2 :=by rw[qC.out]
  obtain⟨E,hE⟩:=bx (Fx.expo f.data.toList);have pJ:=Fx.ylZ f.data.toList;rw[<-hE,dN] at pJ;obtain⟨en,kH⟩:=bx ((at':Int)+((s.size:Int)-(f.size:Int)):Int);obtain⟨px,MV⟩:=bx (-(PL:Int):Int)
  have KO:PL<=1000000000:=by rw[wH.out];have:=Fx.yhq D s.data.toList;rw[dN] at this;omega
  have hw:v=tkv 1 at' (en+((f.size:Int)-(E.2.length:Int))) TX (px+E.1):=by rw[HV.out];unfold Fx.ou;simp only[];rw[<-Iy,<-hE,pU.out,MV,wH.out];congr 1<;>omega
  have b1:0<=en/\en<=2000000000:=aG;have b2: -1000000000<=px/\px<=0:=aG;rw[<-kH,<-MV] at h7;obtain⟨I9,O⟩:=dY hw hE;clear hw hE kH MV KO Iy HV qC pU wH BX I3 i sX HR HH Z8 wF DL HC ru HO A;have y0:=h7.out.1.get 0 rfl;have y1:=h7.out.1.get 1 rfl;have y2:=h7.out.1.get 2 rfl;have y3:=h7.out.1.get 3 rfl;have y4:=h7.out.1.get 4 rfl;have yl:=h7.out.1.1;have z0:=h7.out.2 0;have z1:=h7.out.2 1;have z2:=h7.out.2 2;have z3:=h7.out.2 3;have z4:=h7.out.2 4;have x0:=h6.out.1.get 0 rfl;have x1:=h6.out.1.get 1 rfl;have x2:=h6.out.1.get 2 rfl;have x3:=h6.out.1.get 3 rfl;have x4:=h6.out.1.get 4 rfl;have xl:=h6.out.1.1;have f0:=h6.out.2 0;have f1:=h6.out.2 1;have f2:=h6.out.2 2;have f3:=h6.out.2 3;have f4:=h6.out.2 4;by_cases h0:f.size=0
  ·have hn:f.data.toList=[]:=sV.1 (by rw[dN];exact h0)
   have HW:=aL (show v=tkv 1 at' en TX px by
    rw[I9.out,O.out,hn,show Fx.expo []=(0,[]) from rfl]
    simp[h0])
   have oJ:f.toList.isEmpty=true:=pB h0;clear hn h0 pJ;exact yi8
  have oJ:f.toList.isEmpty=false:=oj aG;have jo: ¬ f=ByteArray.empty:=fun e=>h0 (by rw[e];rfl);have aQ:0<f.size:=aG
  obtain⟨c,r,B⟩: ∃ c r,f.data.toList=c::r:=by
   cases e:f.data.toList with
   |nil=>have:=dN f;rw[e] at this;exact absurd this.symm h0
   |cons c r=>exact⟨c,r,rfl⟩
  have iA:f[0]=c:=by have:=bs_getElem? f 0 aQ;rw[B] at this;simpa using this.symm
  by_cases eE:c=101∨c=69;rotate_left
  ·have HW:=aL (show v=tkv 1 at' en TX px by
    have e:Fx.expo (c::r)=(0,c::r):=by unfold Fx.expo;simp only;rw[bv eE]
    have hl:=dN f;rw[B] at hl;rw[I9.out,O.out,B,e,hl]
    simp)
   have z:((f[0].toNat :Int)==101)=false:=by rw[iA];simp only[gN,tq];intro e;exact eE (.inl (qu.1 (by rw[show(101:UInt8).toNat =101 from rfl];omega)))
   have K:((f[0].toNat :Int)==69)=false:=by rw[iA];simp only[gN,tq];intro e;exact eE (.inr (qu.1 (by rw[show(69:UInt8).toNat =69 from rfl];omega)))
   have k3: ¬ (f[0].toNat :Int)=101:=fun e=>by rw[e] at z;cases z
   have k4: ¬ (f[0].toNat :Int)=69:=fun e=>by rw[e] at K;cases K
   have k5:((f[0].toNat :Int) != 101)=true:=by rw[bne,z];rfl
   have k6:((f[0].toNat :Int) != 69)=true:=by rw[bne,K];rfl
   clear eE iA B pJ h0;exact yi8
  have p9:=aL iA;clear iA;go_upto_region 11 with (fail)
  go_cut [88] (fun sv w'=>sv= .bool false/\w'=Z)
  case first=>
   rcases eE with h|h
   ·have z:(f[0].toNat :Int)=101:=by rw[p9.out,h];rfl
    clear h;go_wp2_with fail
    go_meet;exact⟨rfl,rfl⟩
   ·have z:(f[0].toNat :Int)=69:=by rw[p9.out,h];rfl
    clear h;go_wp2_with fail
    go_meet;exact⟨rfl,rfl⟩
  case rest=>as_aux_lemma=>
   obtain⟨rfl,Ka⟩:=hcut;rw[Ka];clear Ka;have T:r.length+1=f.size:=by rw[<-dN,B];rfl
   have y:E=if(if Fx.sgn r then r.drop 1 else r).takeWhile Dc.cu=[] then(0,c::r) else(if Fx.ngn r then-Fx.upTo ((if Fx.sgn r then r.drop 1 else r).takeWhile Dc.cu) else Fx.upTo ((if Fx.sgn r then r.drop 1 else r).takeWhile Dc.cu),(if Fx.sgn r then r.drop 1 else r).dropWhile Dc.cu):=by rw[O.out,B,Fx.yuz r eE]
   obtain⟨sg,vu⟩:=bx (Fx.sgn r);obtain⟨ng,He⟩:=bx (Fx.ngn r);rw[<-vu,<-He] at y
   have dH: ∀ h:1<f.size,∃ d q,r=d::q/\f[1]=d:=fun h=>by
    have m:=bs_getElem? f 1 h
    cases r with
    |nil=>simp at T;omega
    |cons d q=>rw[B] at m;exact⟨d,q,rfl,by simpa using m.symm⟩
   obtain⟨qJ,Lx,Ut,wG,PH,kw⟩:=ts y vu He dH T B;clear y vu He dH T B pJ;go_upto_region 14 with (fail)
   go_cut [102] (fun sv w'=>sv= .bool sg/\w'=Z)
   case first=>
    by_cases m:1<f.size
    ·have i1:(1:Int)<(f.size:Int):=aG;obtain⟨d,q,gV,hd⟩:=wG.out m;have U:=Lx.out;rw[gV] at U;by_cases S:d=43
     ·have kt:=aL (show sg=true by rw[U,S];rfl);have z:(f[1].toNat :Int)=43:=by rw[hd,S];rfl
      clear U hd gV S;exact ybQ
     ·have z: ¬ (f[1].toNat :Int)=43:=by rw[hd];intro e;exact S (qu.1 (by rw[show(43:UInt8).toNat =43 from rfl];omega))
      have J7:((f[1].toNat :Int)==43)=false:=gN.2 z;by_cases ga:d=45
      ·have kt:=aL (show sg=true by rw[U,ga];rfl);have K:(f[1].toNat :Int)=45:=by rw[hd,ga];rfl
       clear U hd gV S ga z J7;exact ybQ
      ·have K: ¬ (f[1].toNat :Int)=45:=by rw[hd];intro e;exact ga (qu.1 (by rw[show(45:UInt8).toNat =45 from rfl];omega))
       have k2':((f[1].toNat :Int)==45)=false:=gN.2 K;have kt:=aL (show sg=false by rw[U];simp[Fx.sgn,S,ga]);clear U hd gV S ga;exact ybQ
    ·have i1: ¬ (1:Int)<(f.size:Int):=aG;have jf:r=[]:=sV.1 (by have:=PH.out;omega);have kt:=aL (show sg=false by rw[Lx.out,jf];rfl);clear jf;exact ybQ
   case rest=>as_aux_lemma=>
    obtain⟨rfl,uo⟩:=hcut;rw[uo];clear uo;have ip:=fe.out;have KX:=Qv.out.below_of ip;obtain⟨Q,hQ⟩:=bx (⟨(if sg then r.drop 1 else r).toArray⟩:ByteArray);obtain⟨N,hN⟩:=bx (⟨((if sg then r.drop 1 else r).takeWhile Dc.cu).toArray⟩:ByteArray);have P:Q.data.toList=(if sg then r.drop 1 else r):=by rw[hQ]
    have mO:N.data.toList=(if sg then r.drop 1 else r).takeWhile Dc.cu:=by rw[hN]
    have T:=PH.out;have Ow:(if sg then r.drop 1 else r).length <=r.length:=by cases sg<;>simp
    have Ta:Q.size<=f.size:=by rw[<-dN,P];omega
    have J:=dZ List.length (sI (p:=Dc.cu) (l:=(if sg then r.drop 1 else r)));rw[j2,<-mO,<-P,dN,dN] at J
    have EB:((if sg then r.drop 1 else r).dropWhile Dc.cu).length +N.size=Q.size:=by
     have m:=dZ List.length (sI (p:=Dc.cu) (l:=(if sg then r.drop 1 else r)));rw[j2,<-mO,dN] at m;have h2:Q.size=(if sg then r.drop 1 else r).length :=by rw[<-dN,P]
     omega
    have bJ: ∀ W,Calls prog 61 #[.string Q] W (RetB (.string N) W):=fun W=>by have:=R8 Q W aG;rw[P,<-hN] at this;exact this
    have cW:=aL bJ
    have ol:sg=true->2<=f.size/\Q.size+2=f.size:=fun e=>by
     have m:=Lx.out
     cases r with
     |nil=>rw[e] at m;cases m
     |cons d q=>rw[<-dN Q,P,e];simp at T ⊢;omega
    have jH:sg=false->Q.size+1=f.size:=fun e=>by rw[<-dN Q,P,e];simpa using T
    have je:sg=false-> ∀ w:World,(Instr.slice 9 (.string f) (some (.int .i64 1)) none none).run prog w= .ok (.string Q) w:=fun e w=>by have m:=jH e;rw[zi w _ f .i64 _ underlying9,bT aG];congr 2;rw[show(1:Int).toNat =1 from rfl,hQ,<-zH (f.extract 1 f.size),vL,kw.out,e];rfl
    have iI:sg=true-> ∀ w:World,(Instr.slice 9 (.string f) (some (.int .i64 2)) none none).run prog w= .ok (.string Q) w:=fun e w=>by have m:=ol e;rw[zi w _ f .i64 _ underlying9,bT aG];congr 2;rw[show(2:Int).toNat =2 from rfl,hQ,<-zH (f.extract 2 f.size),vL,kw.out,e];rfl
    have y:=qJ.out;rw[<-mO] at y;have sk:N.data.toList.all Dc.cu=true:=by rw[mO];exact zb
    have eu: ∀ o,∀ W,Below Z.heap.size Z W->W.cell? ⟨g7,o,none⟩=Z.cell? ⟨g7,o,none⟩:=fun o W h=>h.cell (p:=⟨g7,o,none⟩) yl;have xz: ∀ o,∀ W,Below Z.heap.size Z W->W.frozen? ⟨g7,o,none⟩=Z.frozen? ⟨g7,o,none⟩:=fun o W h=>h.frozen (p:=⟨g7,o,none⟩) yl;have sP: ∀ o,∀ W,Below Z.heap.size Z W->W.cell? ⟨w.heap.size,o,none⟩=Z.cell? ⟨w.heap.size,o,none⟩:=fun o W h=>h.cell (p:=⟨w.heap.size,o,none⟩) xl;have sE: ∀ o,∀ W,Below Z.heap.size Z W->W.frozen? ⟨w.heap.size,o,none⟩=Z.frozen? ⟨w.heap.size,o,none⟩:=fun o W h=>h.frozen (p:=⟨w.heap.size,o,none⟩) xl;obtain⟨bc,dI,aC,aB⟩:=jv eu xz sP sE;have e7: ¬ w.heap.size=g7:=aG;have e8: ¬ g7=w.heap.size:=aG;clear eu xz sP sE hQ hN P T Ow bJ;by_cases eo:N.size=0
    ·have KP:N.data.toList=[]:=sV.1 (by rw[dN];exact eo)
     have HW:=aL (show v=tkv 1 at' en TX px by
      rw[bT KP] at y;have hl:(c::r).length =f.size:=by rw[<-kw.out,dN]
      rw[I9.out,y,hl]
      simp)
     have pR:N.toList.isEmpty=true:=pB eo;have XJ:N=ByteArray.empty:=by cases N;simp only at KP;congr 1;exact Array.toList_eq_nil_iff.1 KP
     clear EB KP y mO J sk Ta;cases sg
     ·have A:=je rfl;exact yk5
     ·have A:=iI rfl;have bP:=(ol rfl).1;have i9:(2:Int)<=(f.size:Int):=aG;exact yk5
    ·have CK:N.data.toList≠[]:=fun e=>eo (by rw[<-dN,e];rfl);have pR:N.toList.isEmpty=false:=oj aG;have XJ: ¬ N=ByteArray.empty:=fun e=>eo (by rw[e];rfl)
     have TJ:1<f.size:=by
      cases sg with
      |false=>have:=jH rfl;omega
      |true=>have:=(ol rfl).1;omega
     have kng:((f[1].toNat :Int)==45)=ng:=by
      obtain⟨d,q,gV,hd⟩:=wG.out TJ;rw[Ut.out,gV,hd];show _=(d==45);rw[vs];simp only[sb];constructor
      ·intro e;exact qu.1 (by rw[show(45:UInt8).toNat =45 from rfl];omega)
      ·intro e;rw[e];rfl
     have i8:(1:Int)<(f.size:Int):=aG;have lN:N.size<=1000000000:=aG;rw[bv CK] at y;obtain⟨u,hu⟩:=bx (Fx.upTo N.data.toList)
     have Tq:(f.size:Int)-(E.2.length:Int)=((if sg then 2 else 1:Nat):Int)+(N.size:Int):=by
      rw[y];simp only[]
      cases sg with
      |false=>have:=jH rfl;simp only[ye,pI] at EB ⊢;omega
      |true=>have:=(ol rfl).2;simp only[lG] at EB ⊢;omega
     have Ts:E.1=if ng then -u else u:=by rw[y,hu]
     have x:=aL (show v=tkv 1 at' (en+(((if sg then 2 else 1:Nat):Int)+(N.size:Int))) TX (px+if ng then -u else u) by rw[I9.out,Tq,Ts]);have iB:=Fx.yvA N.data.toList sk CK;have vo:u=min (Dc.jQ N.data.toList) 1000000000:=hu;obtain⟨V,hV⟩:=bx (Dc.jQ N.data.toList);rw[<-hV] at iB vo;have RY:N.data.toList.length=N.size:=dN N;clear EB Tq Ts y mO J Ta hu hV sk CK eo I9 qJ O Ut Lx wG PH kw;rcases iB with ⟨hA,v1,v2⟩|⟨hA,v1⟩
     ·by_cases SQ:V<=1000000000
      ·have j:=aL (show u=V by omega);refine ylf ?_;intro HA;clear hA vo v2 KX;cases sg
       ·have A:=je rfl;clear je iI ol jH;cases ng
        ·have HW:=aL (show v=tkv 1 at' (en+(1+(N.size:Int))) TX (px+V) by rw[x.out];simp[j.out]);go_upto_region 24 with (first|(go_at_call 61;refine yB ?_;intro w2 aa ah a0 a1 a2 a3 a4 ju jt u0 u1 u2 u3 u4 jb ja i' iZ iY)|(go_at_call 96;refine yk ?_;rintro e w3 ⟨rfl,an⟩;refine yv ?_;intro ae bK A0 A1 A2 A3 A4 dX kj U0 U1 U2 U3 U4 fL fK fJ fI fH))
         refine ykg ?_;intro dW dV Y hY d7;refine x9 ?_;intro d6 bY;clear hY A0 A1 A2 A3 A4 dX kj U0 U1 U2 U3 U4 fL fK fJ fI fH a0 a1 a2 a3 a4 ju jt u0 u1 u2 u3 u4 jb ja i' iZ iY y0 y1 y2 y3 y4 z0 z1 z2 z3 z4 x0 x1 x2 x3 x4 f0 f1 f2 f3 f4 dW dV;refine xk ?_;intro A2 dX Al;go_upto_region 25 with fail
         refine S3 ?_;intro V2 cz;have c7:CF V2 g7 [.int .i64 1,.int .i64 at',.int .i64 (en+(1+(N.size:Int))),.string TX,.int .i64 (px+V)]:=by exact GQ
         exact yp
        ·have HW:=aL (show v=tkv 1 at' (en+(1+(N.size:Int))) TX (px+ -V) by rw[x.out];simp[j.out]);go_upto_region 24 with (first|(go_at_call 61;refine yB ?_;intro w2 aa ah a0 a1 a2 a3 a4 ju jt u0 u1 u2 u3 u4 jb ja i' iZ iY)|(go_at_call 96;refine yk ?_;rintro e w3 ⟨rfl,an⟩;refine yv ?_;intro ae bK A0 A1 A2 A3 A4 dX kj U0 U1 U2 U3 U4 fL fK fJ fI fH))
         refine yhk ?_;intro dW dV Y hY d7;refine x9 ?_;intro d6 bY;clear hY A0 A1 A2 A3 A4 dX kj U0 U1 U2 U3 U4 fL fK fJ fI fH a0 a1 a2 a3 a4 ju jt u0 u1 u2 u3 u4 jb ja i' iZ iY y0 y1 y2 y3 y4 z0 z1 z2 z3 z4 x0 x1 x2 x3 x4 f0 f1 f2 f3 f4 dW dV;refine xk ?_;intro A2 dX Al;go_upto_region 25 with fail
         refine S3 ?_;intro V2 cz;have c7:CF V2 g7 [.int .i64 1,.int .i64 at',.int .i64 (en+(1+(N.size:Int))),.string TX,.int .i64 (px+ -V)]:=by exact GQ
         exact yp
       ·have A:=iI rfl;have bP:=(ol rfl).1;have i9:(2:Int)<=(f.size:Int):=aG;clear je iI ol jH;cases ng
        ·have HW:=aL (show v=tkv 1 at' (en+(2+(N.size:Int))) TX (px+V) by rw[x.out];simp[j.out]);go_upto_region 24 with (first|(go_at_call 61;refine yB ?_;intro w2 aa ah a0 a1 a2 a3 a4 ju jt u0 u1 u2 u3 u4 jb ja i' iZ iY)|(go_at_call 96;refine yk ?_;rintro e w3 ⟨rfl,an⟩;refine yv ?_;intro ae bK A0 A1 A2 A3 A4 dX kj U0 U1 U2 U3 U4 fL fK fJ fI fH))
         refine ykg ?_;intro dW dV Y hY d7;refine x9 ?_;intro d6 bY;clear hY A0 A1 A2 A3 A4 dX kj U0 U1 U2 U3 U4 fL fK fJ fI fH a0 a1 a2 a3 a4 ju jt u0 u1 u2 u3 u4 jb ja i' iZ iY y0 y1 y2 y3 y4 z0 z1 z2 z3 z4 x0 x1 x2 x3 x4 f0 f1 f2 f3 f4 dW dV;refine xk ?_;intro A2 dX Al;go_upto_region 25 with fail
         refine Nf ?_;intro V2 cz;have c7:CF V2 g7 [.int .i64 1,.int .i64 at',.int .i64 (en+(2+(N.size:Int))),.string TX,.int .i64 (px+V)]:=by exact GQ
         exact yp
        ·have HW:=aL (show v=tkv 1 at' (en+(2+(N.size:Int))) TX (px+ -V) by rw[x.out];simp[j.out]);go_upto_region 24 with (first|(go_at_call 61;refine yB ?_;intro w2 aa ah a0 a1 a2 a3 a4 ju jt u0 u1 u2 u3 u4 jb ja i' iZ iY)|(go_at_call 96;refine yk ?_;rintro e w3 ⟨rfl,an⟩;refine yv ?_;intro ae bK A0 A1 A2 A3 A4 dX kj U0 U1 U2 U3 U4 fL fK fJ fI fH))
         refine yhk ?_;intro dW dV Y hY d7;refine x9 ?_;intro d6 bY;clear hY A0 A1 A2 A3 A4 dX kj U0 U1 U2 U3 U4 fL fK fJ fI fH a0 a1 a2 a3 a4 ju jt u0 u1 u2 u3 u4 jb ja i' iZ iY y0 y1 y2 y3 y4 z0 z1 z2 z3 z4 x0 x1 x2 x3 x4 f0 f1 f2 f3 f4 dW dV;refine xk ?_;intro A2 dX Al;go_upto_region 25 with fail
         refine Nf ?_;intro V2 cz;have c7:CF V2 g7 [.int .i64 1,.int .i64 at',.int .i64 (en+(2+(N.size:Int))),.string TX,.int .i64 (px+ -V)]:=by exact GQ
         exact yp
      ·have j:=aL (show u=1000000000 by omega);refine ylf ?_;intro HA;have iV: ¬ V<=1000000000:=SQ;have iV2:(1000000000:Int)<V:=aG;clear hA vo KX SQ;cases sg
       ·have A:=je rfl;clear je iI ol jH;cases ng
        ·have HW:=aL (show v=tkv 1 at' (en+(1+(N.size:Int))) TX (px+1000000000) by rw[x.out];simp[j.out]);go_upto_region 24 with (first|(go_at_call 61;refine yB ?_;intro w2 aa ah a0 a1 a2 a3 a4 ju jt u0 u1 u2 u3 u4 jb ja i' iZ iY)|(go_at_call 96;refine yk ?_;rintro e w3 ⟨rfl,an⟩;refine yv ?_;intro ae bK A0 A1 A2 A3 A4 dX kj U0 U1 U2 U3 U4 fL fK fJ fI fH))
         refine yax ?_;intro dW dV Y hY d7;refine x9 ?_;intro d6 bY;clear hY A0 A1 A2 A3 A4 dX kj U0 U1 U2 U3 U4 fL fK fJ fI fH a0 a1 a2 a3 a4 ju jt u0 u1 u2 u3 u4 jb ja i' iZ iY y0 y1 y2 y3 y4 z0 z1 z2 z3 z4 x0 x1 x2 x3 x4 f0 f1 f2 f3 f4 dW dV;refine xk ?_;intro A2 dX Al;go_upto_region 25 with fail
         refine S3 ?_;intro V2 cz;refine yly ?_;intro c7;exact yp
        ·have HW:=aL (show v=tkv 1 at' (en+(1+(N.size:Int))) TX (px+ -1000000000) by rw[x.out];simp[j.out]);go_upto_region 24 with (first|(go_at_call 61;refine yB ?_;intro w2 aa ah a0 a1 a2 a3 a4 ju jt u0 u1 u2 u3 u4 jb ja i' iZ iY)|(go_at_call 96;refine yk ?_;rintro e w3 ⟨rfl,an⟩;refine yv ?_;intro ae bK A0 A1 A2 A3 A4 dX kj U0 U1 U2 U3 U4 fL fK fJ fI fH))
         refine ybF ?_;intro dW dV Y hY d7;refine x9 ?_;intro d6 bY;clear hY A0 A1 A2 A3 A4 dX kj U0 U1 U2 U3 U4 fL fK fJ fI fH a0 a1 a2 a3 a4 ju jt u0 u1 u2 u3 u4 jb ja i' iZ iY y0 y1 y2 y3 y4 z0 z1 z2 z3 z4 x0 x1 x2 x3 x4 f0 f1 f2 f3 f4 dW dV;refine xk ?_;intro A2 dX Al;go_upto_region 25 with fail
         refine S3 ?_;intro V2 cz;refine ylR ?_;intro c7;exact yp
       ·have A:=iI rfl;have bP:=(ol rfl).1;have i9:(2:Int)<=(f.size:Int):=aG;clear je iI ol jH;cases ng
        ·have HW:=aL (show v=tkv 1 at' (en+(2+(N.size:Int))) TX (px+1000000000) by rw[x.out];simp[j.out]);go_upto_region 24 with (first|(go_at_call 61;refine yB ?_;intro w2 aa ah a0 a1 a2 a3 a4 ju jt u0 u1 u2 u3 u4 jb ja i' iZ iY)|(go_at_call 96;refine yk ?_;rintro e w3 ⟨rfl,an⟩;refine yv ?_;intro ae bK A0 A1 A2 A3 A4 dX kj U0 U1 U2 U3 U4 fL fK fJ fI fH))
         refine yax ?_;intro dW dV Y hY d7;refine x9 ?_;intro d6 bY;clear hY A0 A1 A2 A3 A4 dX kj U0 U1 U2 U3 U4 fL fK fJ fI fH a0 a1 a2 a3 a4 ju jt u0 u1 u2 u3 u4 jb ja i' iZ iY y0 y1 y2 y3 y4 z0 z1 z2 z3 z4 x0 x1 x2 x3 x4 f0 f1 f2 f3 f4 dW dV;refine xk ?_;intro A2 dX Al;go_upto_region 25 with fail
         refine Nf ?_;intro V2 cz;refine yjA ?_;intro c7;exact yp
        ·have HW:=aL (show v=tkv 1 at' (en+(2+(N.size:Int))) TX (px+ -1000000000) by rw[x.out];simp[j.out]);go_upto_region 24 with (first|(go_at_call 61;refine yB ?_;intro w2 aa ah a0 a1 a2 a3 a4 ju jt u0 u1 u2 u3 u4 jb ja i' iZ iY)|(go_at_call 96;refine yk ?_;rintro e w3 ⟨rfl,an⟩;refine yv ?_;intro ae bK A0 A1 A2 A3 A4 dX kj U0 U1 U2 U3 U4 fL fK fJ fI fH))
         refine ybF ?_;intro dW dV Y hY d7;refine x9 ?_;intro d6 bY;clear hY A0 A1 A2 A3 A4 dX kj U0 U1 U2 U3 U4 fL fK fJ fI fH a0 a1 a2 a3 a4 ju jt u0 u1 u2 u3 u4 jb ja i' iZ iY y0 y1 y2 y3 y4 z0 z1 z2 z3 z4 x0 x1 x2 x3 x4 f0 f1 f2 f3 f4 dW dV;refine xk ?_;intro A2 dX Al;go_upto_region 25 with fail
         refine Nf ?_;intro V2 cz;refine yml ?_;intro c7;exact yp
     ·have j:=aL (show u=1000000000 by omega);have HA:=aL (fun(W:World) (hb:Below Z.heap.size Z W)=>(show Calls prog 96 #[.string N] W (fun e w'=> ∃ sv Nn,e= .returned (.tuple #[.int .i64 sv,.iface 209 (.pointer (some ⟨Nn,0,none⟩))])/\Below W.heap.size W w') by obtain⟨ev,z,K,k3⟩:=KX.below hb;exact(strconv_Atoi_range N aG hA ev W z K).mono fun e w' he=>by obtain⟨Nn,m,h2,h3,h4⟩:=he;exact⟨_,Nn,m,h4⟩));clear hA vo KX v1;cases sg
      ·have A:=je rfl;clear je iI ol jH;cases ng
       ·have HW:=aL (show v=tkv 1 at' (en+(1+(N.size:Int))) TX (px+1000000000) by rw[x.out];simp[j.out]);go_upto_region 24 with (first|(go_at_call 61;refine yB ?_;intro w2 aa ah a0 a1 a2 a3 a4 ju jt u0 u1 u2 u3 u4 jb ja i' iZ iY)|(go_at_call 96;refine yk ?_;rintro e w3 ⟨sv,Nn,rfl,an⟩;refine yv ?_;intro ae bK A0 A1 A2 A3 A4 dX kj U0 U1 U2 U3 U4 fL fK fJ fI fH))
        refine yax ?_;intro dW dV Y hY d7;refine x9 ?_;intro d6 bY;clear hY A0 A1 A2 A3 A4 dX kj U0 U1 U2 U3 U4 fL fK fJ fI fH a0 a1 a2 a3 a4 ju jt u0 u1 u2 u3 u4 jb ja i' iZ iY y0 y1 y2 y3 y4 z0 z1 z2 z3 z4 x0 x1 x2 x3 x4 f0 f1 f2 f3 f4 dW dV;refine xk ?_;intro A2 dX Al;go_upto_region 25 with fail
        refine S3 ?_;intro V2 cz;refine yly ?_;intro c7;exact yp
       ·have HW:=aL (show v=tkv 1 at' (en+(1+(N.size:Int))) TX (px+ -1000000000) by rw[x.out];simp[j.out]);go_upto_region 24 with (first|(go_at_call 61;refine yB ?_;intro w2 aa ah a0 a1 a2 a3 a4 ju jt u0 u1 u2 u3 u4 jb ja i' iZ iY)|(go_at_call 96;refine yk ?_;rintro e w3 ⟨sv,Nn,rfl,an⟩;refine yv ?_;intro ae bK A0 A1 A2 A3 A4 dX kj U0 U1 U2 U3 U4 fL fK fJ fI fH))
        refine ybF ?_;intro dW dV Y hY d7;refine x9 ?_;intro d6 bY;clear hY A0 A1 A2 A3 A4 dX kj U0 U1 U2 U3 U4 fL fK fJ fI fH a0 a1 a2 a3 a4 ju jt u0 u1 u2 u3 u4 jb ja i' iZ iY y0 y1 y2 y3 y4 z0 z1 z2 z3 z4 x0 x1 x2 x3 x4 f0 f1 f2 f3 f4 dW dV;refine xk ?_;intro A2 dX Al;go_upto_region 25 with fail
        refine S3 ?_;intro V2 cz;refine ylR ?_;intro c7;exact yp
      ·have A:=iI rfl;have bP:=(ol rfl).1;have i9:(2:Int)<=(f.size:Int):=aG;clear je iI ol jH;cases ng
       ·have HW:=aL (show v=tkv 1 at' (en+(2+(N.size:Int))) TX (px+1000000000) by rw[x.out];simp[j.out]);go_upto_region 24 with (first|(go_at_call 61;refine yB ?_;intro w2 aa ah a0 a1 a2 a3 a4 ju jt u0 u1 u2 u3 u4 jb ja i' iZ iY)|(go_at_call 96;refine yk ?_;rintro e w3 ⟨sv,Nn,rfl,an⟩;refine yv ?_;intro ae bK A0 A1 A2 A3 A4 dX kj U0 U1 U2 U3 U4 fL fK fJ fI fH))
        refine yax ?_;intro dW dV Y hY d7;refine x9 ?_;intro d6 bY;clear hY A0 A1 A2 A3 A4 dX kj U0 U1 U2 U3 U4 fL fK fJ fI fH a0 a1 a2 a3 a4 ju jt u0 u1 u2 u3 u4 jb ja i' iZ iY y0 y1 y2 y3 y4 z0 z1 z2 z3 z4 x0 x1 x2 x3 x4 f0 f1 f2 f3 f4 dW dV;refine xk ?_;intro A2 dX Al;go_upto_region 25 with fail
        refine Nf ?_;intro V2 cz;refine yjA ?_;intro c7;exact yp
       ·have HW:=aL (show v=tkv 1 at' (en+(2+(N.size:Int))) TX (px+ -1000000000) by rw[x.out];simp[j.out]);go_upto_region 24 with (first|(go_at_call 61;refine yB ?_;intro w2 aa ah a0 a1 a2 a3 a4 ju jt u0 u1 u2 u3 u4 jb ja i' iZ iY)|(go_at_call 96;refine yk ?_;rintro e w3 ⟨sv,Nn,rfl,an⟩;refine yv ?_;intro ae bK A0 A1 A2 A3 A4 dX kj U0 U1 U2 U3 U4 fL fK fJ fI fH))
        refine ybF ?_;intro dW dV Y hY d7;refine x9 ?_;intro d6 bY;clear hY A0 A1 A2 A3 A4 dX kj U0 U1 U2 U3 U4 fL fK fJ fI fH a0 a1 a2 a3 a4 ju jt u0 u1 u2 u3 u4 jb ja i' iZ iY y0 y1 y2 y3 y4 z0 z1 z2 z3 z4 x0 x1 x2 x3 x4 f0 f1 f2 f3 f4 dW dV;refine xk ?_;intro A2 dX Al;go_upto_region 25 with fail
        refine Nf ?_;intro V2 cz;refine yml ?_;intro c7;exact yp
end Go.Proofs.YtilbpmimoijfhaaGreatDoor
