/- Formulas: the token that stands next, by the program (printed by gen/mkk9.py). -/
import Derived.Test.YtilbpmimoijfhaaGreatDoorY21
namespace Go.Proofs.YtilbpmimoijfhaaGreatDoor
set_option linter.all false
set_option maxRecDepth 100000
set_option maxHeartbeats 16000000
open Go.RowKit Go.Proofs.Tryz
def tokV (S:ByteArray) (t:Fx.Tk):Value:=tkv t.kind (S.size-t.at'.length:Nat) (if t.kind=6 then 0 else(S.size-t.end'.length:Nat)) ⟨t.text.toArray⟩ t.exp
structure Tp (w:World) (p g:Nat) (D L:UInt8) (S:ByteArray) (i:Nat):Prop where
 sg:Sg w p g D L
 ev:EvR w
 str:w.cell? ⟨p,1,none⟩=some (.string S)
 pos:w.cell? ⟨p,2,none⟩=some (.int .i64 i)
 le:i<=S.size
def Tp.on {w w':World} {p g:Nat} {D L:UInt8} {S:ByteArray} {i:Nat} (h:Tp w p g D L S i) (hb:Below w.heap.size w w'):Tp w' p g D L S i:=
 ⟨h.sg.on hb,h.ev.below hb,(hb.cell (p:=⟨p,1,none⟩) h.sg.pl).trans h.str,(hb.cell (p:=⟨p,2,none⟩) h.sg.pl).trans h.pos,h.le⟩
def ytW (p g:Nat) (D L:UInt8) (S:ByteArray) (i:Nat) (w:World) (N:Tp w p g D L S i) (hz:S.size<=1000000) (h:Fx.skip (S.data.toList.drop i)=[]):
 Calls prog 41 #[.pointer (some ⟨p,0,none⟩)] w (RetB (tokV S (Fx.tok D L (S.data.toList.drop i))) w):=by
 obtain⟨l,hl⟩:=bx (Fx.skip (S.data.toList.drop i));have C:Fx.tok D L (S.data.toList.drop i)=Fx.tokS D L l:=by rw[hl];rfl
 rw[C];obtain⟨v,hv⟩:=bx (tokV S (Fx.tokS D L l));rw[<-hv];obtain⟨⟨A,G,F,pl,gl⟩,f,y,x,hi⟩:=N;obtain⟨d,r⟩:=bx (S.extract i S.size:ByteArray);have t:d.data.toList=S.data.toList.drop i:=by rw[r,vL]
 have kC: ∀ w:World,(Instr.slice 9 (.string S) (some (.int .i64 (i:Int))) none none).run prog w= .ok (.string d) w:=fun w=>by rw[zi w _ S .i64 _ underlying9,bT aG,r];congr 3
 obtain⟨T,a⟩:=bx (⟨l.toArray⟩:ByteArray);have bH:T.data.toList=l:=by rw[a]
 have gY:T.size<=S.size:=by have:=Fx.yP (S.data.toList.drop i);rw[<-hl,rS,dN] at this;rw[<-dN T,bH];omega
 have B:T.size=l.length:=yb4
 have s: ∀ W:World,Calls prog 58 #[.string d,.func (.func 59) #[] #[]] W (RetB (.string T) W):=fun W=>by have:=yiT d W;rw[t,<-hl] at this;rw[a];exact this
 have c:=fun(w:World)=>strings_CutPrefix T ⟨#[D]⟩ w;obtain⟨R,n⟩:=bx (⟨(Lib.trimPrefix l [D]).toArray⟩:ByteArray);obtain⟨o,j⟩:=bx (Lib.hasPrefix l [D]);replace c: ∀ w:World,Calls prog 60 #[.string T,.string ⟨#[D]⟩] w (Ret0 (.tuple #[.string R,.bool o]) w):=fun w=>(c w).mono fun e w' ⟨e1,O⟩=>⟨by rw[e1,bH,n,j],O.symm⟩
 have I: ∀ W,Calls prog 61 #[.string T] W (RetB (.string ⟨(l.takeWhile Dc.cu).toArray⟩) W):=fun W=>by have:=R8 T W aG;rw[bH] at this;exact this
 have u:=hl;have E:((S.size-l.length:Nat):Int)=(S.size:Int)-(T.size:Int):=aG;obtain⟨V,U,Z,Q,iF,Y,HO,K,M,Qv,Zl⟩:=VP s c I hv bH n j B E f a;have wD:=aL (Tp.mk (Sg.mk A G F pl gl) f y x hi);clear s c I hv a n j B E t r C hl f bH;have b:l=[]:=by rw[<-h,u]
 have P:=aL (show v=tkv 0 ((S.size:Int)-(T.size:Int)) ((S.size:Int)-(T.size:Int)) ⟨#[]⟩ 0 by
  have m:=M.out;rw[Q.out,b];rw[b] at m;unfold tokV Fx.tokS;simp only[rp] at m ⊢;rw[bv bL]
  exact dZ (fun z=>tkv 0 z z ⟨#[]⟩ 0) m)
 have Cz:T.toList.isEmpty=true:=pB (by rw[K.out,b];rfl);clear b h u;go_enter func41,ntmps41
 go_upto_region 1 with (fail)
 refine yjO ?_;intro X hX bX fX r0 e1 e3 xp xg r1 r2 xn FX BX;clear hX fX bX A G F y x
 go_region_held3 (fun w'=>w'.cell? ⟨p,1,none⟩=some (.string S)/\w'.cell? ⟨p,2,none⟩=some (.int .i64 i))
  (first|go_keep|(refine⟨?_,?_⟩<;>(first|(rw[H];assumption)|(go_simp;done)|(simp[go_sem, *];done))))
  (first|(go_at_call 58;refine cp (V.out _) ?_;intro J q;have H:=fun o=>q.cell (p:=⟨p,o,none⟩) qQ;have ix:Below X.heap.size X J:=yY dt (q.mono qQ)))
 refine yjC ?_;intro c1 bw t0 t1 t3 tp tg te u1 u2 x0 x1 x2 x3 x4 xl f0 f1 f2 f3 f4 n1 n2 n3 n4 C1 BW TE;clear c1 bw te H q ix r0 e1 e3 xp xg r1 r2 xn;go_wp2_with (first|(go_at_call 60;refine cY (U.out _) ?_))
 (refine Kc results41 It (C1.out.1) ?_;exact I7 (P.out) rfl rfl rfl rfl rfl oD oD oD KJ oD cm (BW.out))
def yu9 (n:Int):(Fx.jq n).length <=10:=by
 unfold Fx.jq;repeat' split
 all_goals decide
def Fx.yt7 (n:Nat):(Fx.jq (n:Int)).length <=10:=yu9 n
def ytO {l:List UInt8} {k:Nat} (d:1<=k) (c:k<=8) (a:true=Lib.hasPrefix l (Fx.jq (k:Nat))∨Lib.hasPrefix l (Fx.jq (k:Nat))=true) (hn: ∀ j:Nat,1<=j->j<k->Lib.hasPrefix l (Fx.jq (j:Nat))=false):Fx.pq l=some k:=by
 replace a:Lib.hasPrefix l (Fx.jq (k:Nat))=true:=a.elim Eq.symm id;have b:k=1∨k=2∨k=3∨k=4∨k=5∨k=6∨k=7∨k=8:=aG;rcases b with rfl|rfl|rfl|rfl|rfl|rfl|rfl|rfl
 ·simp only[Fx.pq,zr,a]
 ·simp only[Fx.pq,zr,hn 1 bL bL,a]
 ·simp only[Fx.pq,zr,hn 1 bL bL,hn 2 bL bL,a]
 ·simp only[Fx.pq,zr,hn 1 bL bL,hn 2 bL bL,hn 3 bL bL,a]
 ·simp only[Fx.pq,zr,hn 1 bL bL,hn 2 bL bL,hn 3 bL bL,hn 4 bL bL,a]
 ·simp only[Fx.pq,zr,hn 1 bL bL,hn 2 bL bL,hn 3 bL bL,hn 4 bL bL,hn 5 bL bL,a]
 ·simp only[Fx.pq,zr,hn 1 bL bL,hn 2 bL bL,hn 3 bL bL,hn 4 bL bL,hn 5 bL bL,hn 6 bL bL,a]
 ·simp only[Fx.pq,zr,hn 1 bL bL,hn 2 bL bL,hn 3 bL bL,hn 4 bL bL,hn 5 bL bL,hn 6 bL bL,hn 7 bL bL,a]
def ywh {l:List UInt8} (a: ∀ j:Nat,1<=j->j<9->Lib.hasPrefix l (Fx.jq (j:Nat))=false):Fx.pq l=none:=by unfold Fx.pq;rw[List.find?_eq_none];intro x hx;simp only[sC,yF,yR] at hx;rw[a x aG aG];simp
def yoO {a:Type} {q:a->Bool} {l:List a} {k:Nat} (b:k<l.length) (c:q l[k]=true) (hn: ∀ j (hj:j<k),q (l[j]'(xH hj b))=false):l.find? q=some l[k]:=by rw[List.find?_eq_some_iff_getElem];exact⟨c,k,b,rfl,fun j hj=>by rw[hn j hj];rfl⟩
def ysr {a:Type} {q:a->Bool} {l:List a} (hn: ∀ j (hj:j<l.length),q l[j]=false):l.find? q=none:=by rw[List.find?_eq_none];intro x hx;obtain⟨j,hj,rfl⟩:=List.getElem_of_mem hx;rw[hn j hj];simp
def ysU (L:UInt8) (k:Nat) (a:k<(Fx.signs L).length):((Fx.signs L)[k]).length <=2:=by have hm:(Fx.signs L)[k] ∈ Fx.signs L:=pK a;revert hm;generalize (Fx.signs L)[k]=g;unfold Fx.signs;simp only[sC,yF,yR];rintro (rfl|rfl|rfl|rfl|rfl|rfl|rfl|rfl|rfl|rfl|rfl|rfl|rfl|rfl|rfl|rfl|rfl)<;>simp
def yhH {l p:List UInt8} (h:Lib.hasPrefix l p=true):p.length<=l.length:=by have a:p.isPrefixOf l=true:=h;exact(List.isPrefixOf_iff_prefix.1 a).length_le
def yko {c:UInt8} {r:List UInt8} (h:Dc.cu c=false):(c::r).takeWhile Dc.cu=[]:=J6 (by rw[h];simp)
def yl2 {c:UInt8} {r:List UInt8} (h:Dc.cu c=true):(c::r).takeWhile Dc.cu≠[]:=by rw[Wt h];simp
def yqj (D:UInt8) (l:List UInt8):Fx.oT D l=(Lib.hasPrefix l [D]&&!((Lib.trimPrefix l [D]).takeWhile Dc.cu).isEmpty):=by
 unfold Fx.oT;rcases ydN D l with ⟨a,d,b⟩|⟨r,a,d,b,f⟩
 ·rw[a,d];rfl
 ·rw[a,b,f]
  cases r with
  |nil=>rfl
  |cons c r=>
   by_cases h:Dc.cu c=true
   ·have:=yl2 (r:=r) h
    simp only[h,gA]
    cases e:(c::r).takeWhile Dc.cu with
    |nil=>exact absurd e this
    |cons=>rfl
   ·have h':Dc.cu c=false:=nu
    rw[yko h'];simp[h']
def ynW (p g:Nat) (D L:UInt8) (S:ByteArray) (i:Nat) (w:World) (hT:Tp w p g D L S i) (hz:S.size<=1000000) (hN: ∀ (T:ByteArray) (A:Nat) (W:World),Sg W p g D L->EvR W->T.size<=1000000000->A<=1000000000->Calls prog 62 #[.pointer (some ⟨p,0,none⟩),.string T,.int .i64 A] W (RetB (tkv 1 A (A+(T.size-(Fx.ou D T.data.toList).end'.length :Nat)) ⟨(Fx.ou D T.data.toList).text.toArray⟩ (Fx.ou D T.data.toList).exp) W)) (h:Fx.skip (S.data.toList.drop i)≠[]):
 Calls prog 41 #[.pointer (some ⟨p,0,none⟩)] w (RetB (tokV S (Fx.tok D L (S.data.toList.drop i))) w):=by
 obtain⟨l,hl⟩:=bx (Fx.skip (S.data.toList.drop i));have kB:Fx.tok D L (S.data.toList.drop i)=Fx.tokS D L l:=by rw[hl];rfl
 rw[kB];obtain⟨v,hv⟩:=bx (tokV S (Fx.tokS D L l));rw[<-hv];obtain⟨⟨q0,x,u,pl,gl⟩,sH,q1,q2,hi⟩:=hT;obtain⟨S0,CC⟩:=bx (S.extract i S.size:ByteArray);have tw:S0.data.toList=S.data.toList.drop i:=by rw[CC,vL]
 have kC: ∀ w:World,(Instr.slice 9 (.string S) (some (.int .i64 (i:Int))) none none).run prog w= .ok (.string S0) w:=fun w=>by rw[zi w _ S .i64 _ underlying9,bT aG,CC];congr 3
 obtain⟨T,vZ⟩:=bx (⟨l.toArray⟩:ByteArray);have bH:T.data.toList=l:=by rw[vZ]
 have gY:T.size<=S.size:=by have:=Fx.yP (S.data.toList.drop i);rw[<-hl,rS,dN] at this;rw[<-dN T,bH];omega
 have s:T.size=l.length:=yb4
 have xI: ∀ W:World,Calls prog 58 #[.string S0,.func (.func 59) #[] #[]] W (RetB (.string T) W):=fun W=>by have:=yiT S0 W;rw[tw,<-hl] at this;rw[vZ];exact this
 have sO:=fun(w:World)=>strings_CutPrefix T ⟨#[D]⟩ w;obtain⟨R,hR⟩:=bx (⟨(Lib.trimPrefix l [D]).toArray⟩:ByteArray);obtain⟨o,ho⟩:=bx (Lib.hasPrefix l [D]);replace sO: ∀ w:World,Calls prog 60 #[.string T,.string ⟨#[D]⟩] w (Ret0 (.tuple #[.string R,.bool o]) w):=fun w=>(sO w).mono fun e w' ⟨e1,K⟩=>⟨by rw[e1,bH,hR,ho],K.symm⟩
 have GV: ∀ W,Calls prog 61 #[.string T] W (RetB (.string ⟨(l.takeWhile Dc.cu).toArray⟩) W):=fun W=>by have:=R8 T W aG;rw[bH] at this;exact this
 have qU:=hl;have m:((S.size-l.length:Nat):Int)=(S.size:Int)-(T.size:Int):=aG;obtain⟨HB,HC,oc,N,Y,ru,HO,E,z,Qv,Zl⟩:=VP xI sO GV hv bH hR ho s m sH vZ;have wD:=aL (Tp.mk (Sg.mk q0 x u pl gl) sH q1 q2 hi);clear xI sO GV hv vZ hR ho s m tw CC kB hl sH bH;rw[<-qU] at h
 obtain⟨c,r,gW⟩: ∃ c r,l=c::r:=by
  cases e:l with
  |nil=>exact absurd e h
  |cons c r=>exact⟨c,r,rfl⟩
 obtain⟨RT,wb⟩:=bx (⟨(l.takeWhile Dc.cu).toArray⟩:ByteArray);rw[<-wb] at oc;have vY:0<T.size:=by rw[E.out,gW];simp
 have Cz:T.toList.isEmpty=false:=oj vY;have hTE: ¬ T=ByteArray.empty:=fun e=>by rw[e] at vY;exact absurd vY bL
 have SV:T[0]=c:=by have:=bs_getElem? T 0 vY;rw[Y.out,gW] at this;simpa using this.symm
 obtain⟨nb,hnb⟩:=bx ((Dc.cu c || Fx.oT D l));obtain⟨RR,Ov⟩:=bx (⟨((Lib.trimPrefix l [D]).takeWhile Dc.cu).toArray⟩:ByteArray)
 have RF: ∀ W,Calls prog 61 #[.string R] W (RetB (.string RR) W):=fun W=>by
  have kL:R.size<=T.size:=by
   rw[ru.out,nm,E.out];rcases ydN D l with ⟨e1,K,e3⟩|⟨r,e1,K,e3,e4⟩
   ·rw[e3];exact cm
   ·rw[e4,K];simp
  have:=R8 R W aG;rw[ru.out] at this ⊢;rw[Ov];exact this
 obtain⟨Jo,f,EZ,Jm,Jn,Lv,nN⟩:=zo RF gW hnb wb Ov SV hN;clear RF gW hnb wb Ov SV h qU hN;go_enter func41,ntmps41
 go_upto_region 1 with (fail)
 refine yjO ?_;intro X hX bX fX r0 e1 e3 xp xg r1 r2 xn FX BX;clear hX fX bX q0 x u q1 q2
 go_region_held3 (fun w'=>w'.cell? ⟨p,1,none⟩=some (.string S)/\w'.cell? ⟨p,2,none⟩=some (.int .i64 i))
  (first|go_keep|(refine⟨?_,?_⟩<;>(first|(rw[ag];assumption)|(go_simp;done)|(simp[go_sem, *];done))))
  (first|(go_at_call 58;refine cp (HB.out _) ?_;intro Q ab;have ag:=fun o=>ab.cell (p:=⟨p,o,none⟩) qQ;have ix:Below X.heap.size X Q:=yY dt (ab.mono qQ)))
 refine yjC ?_;intro c1 bw t0 t1 t3 tp tg te u1 u2 x0 x1 x2 x3 x4 xl f0 f1 f2 f3 f4 n1 n2 n3 n4 C1 BW TE;clear c1 bw te ag ab ix r0 e1 e3 xp xg r1 r2 xn;go_upto_if 49 with (first|(go_at_call 60;refine cY (HC.out _) ?_)|(go_at_call 61;refine cp (oc.out _) ?_;intro w2 aa;obtain⟨aI,aO,aN,ah⟩:=g9 (Q) aa;(try simp only[fO,gz,fY,gt] at ah);obtain⟨aA,aF,aE,aD,au,aJ⟩:=own6 aa (w.heap.size);obtain⟨bA,bE,bD,bC,aZ,bW⟩:=own6 aa (p);obtain⟨gG,gD,gB,gy,gm,gJ⟩:=own6 aa (g)))
 have jl:Below Q.heap.size Q w2:=by first|exact aa|exact aI
 have wR:=aL jl;clear aO aN aa aI aA bA gG aF bE gD aE bD gB aD bC gy au aZ gm aJ bW gJ jl;generalize hrb:(!RT.toList.isEmpty)=rb;have Um:=aL hrb;clear hrb;go_cut [49] (fun sv w'=>sv= .bool nb/\Hid (Below Q.heap.size Q w'))
 case first=>
  cases b:Dc.cu c with
  |true=>
   have kt:=aL (show nb=true by rw[EZ.out,b];rfl)
   have e1:RT.toList.isEmpty=false:=oj (by rw[Jm.out,nm,f.out];exact ti.2 (yl2 b))
   obtain rfl:rb=true:=by rw[<-Um.out,e1];rfl
   clear b e1
   go_wp2_with fail
   go_meet
   exact⟨by rw[kt.out],wR⟩
  |false=>
   have K:RT=ByteArray.empty:=by rw[Jm.out,f.out,yko b];rfl
   have e1:RT.toList.isEmpty=true:=by rw[K];exact pB rfl
   obtain rfl:rb=false:=by rw[<-Um.out,e1];rfl
   have hnb:nb=(o&&!((Lib.trimPrefix l [D]).takeWhile Dc.cu).isEmpty):=by rw[EZ.out,b,Sc,yqj,HO.out]
   clear b e1 K
   cases o with
   |false=>
    have kt:=aL (show nb=false by rw[hnb];rfl)
    clear hnb
    go_wp2_with fail
    go_meet
    exact⟨by rw[kt.out],wR⟩
   |true=>
    have C8:=wR.out
    have Gk:=C8.size
    by_cases EL:(Lib.trimPrefix l [D]).takeWhile Dc.cu=[]
    ·have kt:=aL (show nb=false by rw[hnb,EL];rfl)
     have e4:RR=ByteArray.empty:=by rw[Jn.out,EL];rfl
     have e3:RR.toList.isEmpty=true:=by rw[e4];exact pB rfl
     exact yle
    ·have kt:=aL (show nb=true by rw[hnb];cases e:(Lib.trimPrefix l [D]).takeWhile Dc.cu with
      |nil=>exact absurd e EL
      |cons=>rfl)
     have e3:RR.toList.isEmpty=false:=oj (by rw[Jn.out,nm];exact ti.2 EL)
     have e4: ¬ RR=ByteArray.empty:=fun e=>by rw[e,pB rfl] at e3;cases e3
     exact yle
 case rest=>as_aux_lemma=>
  obtain⟨rfl,N6⟩:=hcut;obtain⟨Z,rfl⟩:=bx (wc:World);have rj:=BW.out.trans (N6.out.mono BW.out.size);have cZ:=C1.out.on N6.out;obtain⟨⟨t0',J3,Vi,tp',tg'⟩,QY,u1',u2', -⟩:=wD.out.on rj;clear t0 t1 t3 tp tg u1 u2 x0 x1 x2 x3 x4 xl f0 f1 f2 f3 f4;refine W9 ?_;intro x0 x1 x2 x3;have x4:=cZ.1.get 4 rfl;have xl:=cZ.1.1;have f0:=cZ.2 0;have f1:=cZ.2 1;have f2:=cZ.2 2;have f3:=cZ.2 3;have f4:=cZ.2 4;have TZ:=aL (wD.out.on rj);obtain⟨O,BZ,YG⟩:=iJ cZ rj QY;clear cZ rj QY N6 wR;have hA:S.size-l.length<=1000000000:=aG;have Cw:T.size<=1000000000:=aG
  cases nb with
  |true=>
   have Bg:(Dc.cu c || Fx.oT D (c::r))=true:=by rw[<-f.out];exact EZ.out.symm
   have pJ:=Fx.yix D c r Bg
   have aX:Fx.tokS D L l=Fx.ou D l:=by rw[f.out];unfold Fx.tokS;simp only;rw[bT Bg]
   rw[<-f.out] at pJ
   obtain⟨EN,P⟩:=bx (((S.size-(Fx.ou D l).end'.length :Nat):Int):Int)
   obtain⟨Lp,I⟩:=bx (⟨(Fx.ou D l).text.toArray⟩:ByteArray)
   obtain⟨UH,C9⟩:=bx ((Fx.ou D l).exp :Int)
   have s:=E.out
   have iL: ∀ W:World,Below Z.heap.size Z W->Calls prog 62 #[.pointer (some ⟨p,0,none⟩),.string T,.int .i64 ((S.size:Int)-(T.size:Int))] W (RetB (.agg #[.int .i64 1,.int .i64 ((S.size:Int)-(T.size:Int)),.int .i64 EN,.string Lp,.int .i64 UH]) W):=fun W hW=>by have a:=nN.out T (S.size-l.length) W (TZ.out.on hW).sg (YG.out.below hW) Cw hA;rw[Y.out,<-I,<-C9] at a;rw[<-z.out];rw[show((S.size-l.length:Nat):Int)+((T.size-(Fx.ou D l).end'.length :Nat):Int)=EN by rw[P];omega] at a;exact a
   have HW:=aL (show v=tkv 1 ((S.size:Int)-(T.size:Int)) EN Lp UH by rw[N.out,aX,P,I,C9,<-z.out];rfl)
   have ZM:=aL iL
   clear Bg pJ aX P I C9 s iL EZ
   go_wp2_with (first|(go_at_call 62;refine cp (ZM.out _ eN) ?_;intro w3 an;have c3:=O.out.on an;have fb:=an.size;have v0:=c3.1.get 0 rfl;have v1:=c3.1.get 1 rfl;have v2:=c3.1.get 2 rfl;have V:=c3.1.get 3 rfl;have v4:=c3.1.get 4 rfl;have U:=c3.1.1;have g0:=c3.2 0;have x:=c3.2 1;have g2:=c3.2 2;have u:=c3.2 3;have g4:=c3.2 4))
   exact yak
  |false=>
   have Hi:(Dc.cu c || Fx.oT D (c::r))=false:=by rw[<-f.out];exact EZ.out.symm
   have aX:Fx.tokS D L l=(if c=34 then(match Fx.quot r with|some (t,l)=>⟨2,c::r,l,t,0⟩|none=>⟨6,c::r,[],[],0⟩) else if Fx.gI c || c==36 then⟨3,c::r,(c::r).dropWhile Fx.j1,(c::r).takeWhile Fx.j1,0⟩ else match Fx.pq (c::r) with
   |some n=>⟨4,c::r,(c::r).drop (Fx.jq (n:Nat)).length,[],n⟩
   |none=>match Fx.ss L (c::r) with
    |some g=>⟨5,c::r,(c::r).drop g.length,g,0⟩
    |none=>⟨6,c::r,[],[],0⟩):=by
    rw[f.out];unfold Fx.tokS;simp only;rw[bv (by rw[Hi];simp)];rfl
   have ib:=aL aX
   clear Hi aX EZ
   by_cases q:c=34
   ·have hq:=fun W=>ysX T r (S.size-l.length) W (by rw[Y.out,f.out,q]) Cw hA
    rw[z.out] at hq
    have k1:(T[0].toNat :Int)=34:=by rw[Lv.out,q];rfl
    have J7:((T[0].toNat :Int)==34)=true:=by rw[k1];rfl
    have s:=E.out
    have m:=z.out
    have ei:(c::r).length =l.length:=by rw[f.out]
    cases e:Fx.quot r with
    |some tl=>
     obtain⟨t,l'⟩:=tl
     have Kk:=Fx.yjf e
     rw[e] at hq
     simp only[] at hq
     obtain⟨EN,P⟩:=bx (((S.size-l'.length:Nat):Int):Int)
     obtain⟨Lp,I⟩:=bx (⟨t.toArray⟩:ByteArray)
     rw[show((S.size-l.length+(T.size-l'.length):Nat):Int)=EN by rw[P];simp only[gE] at ei;omega,<-I] at hq
     have HW:=aL (show v=tkv 2 ((S.size:Int)-(T.size:Int)) EN Lp 0 by rw[N.out,ib.out,bT q,e,P,I,<-m,<-ei];rfl)
     have HQ:=aL hq
     unfold tkv at HQ
     clear hq s m ei Kk e q P I
     go_wp2_with (first|(go_at_call 63;refine cp (HQ.out _) ?_;intro w3 an;have c3:=O.out.on an;have fb:=an.size;have v0:=c3.1.get 0 rfl;have v1:=c3.1.get 1 rfl;have v2:=c3.1.get 2 rfl;have V:=c3.1.get 3 rfl;have v4:=c3.1.get 4 rfl;have U:=c3.1.1;have g0:=c3.2 0;have x:=c3.2 1;have g2:=c3.2 2;have u:=c3.2 3;have g4:=c3.2 4))
     exact yak
    |none=>
     rw[e] at hq
     simp only[] at hq
     have HW:=aL (show v=tkv 6 ((S.size:Int)-(T.size:Int)) 0 ⟨#[]⟩ 0 by rw[N.out,ib.out,bT q,e,<-m,<-ei];rfl)
     have HQ:=aL hq
     unfold tkv at HQ
     clear hq s m ei e q
     go_wp2_with (first|(go_at_call 63;refine cp (HQ.out _) ?_;intro w3 an;have c3:=O.out.on an;have fb:=an.size;have v0:=c3.1.get 0 rfl;have v1:=c3.1.get 1 rfl;have v2:=c3.1.get 2 rfl;have V:=c3.1.get 3 rfl;have v4:=c3.1.get 4 rfl;have U:=c3.1.1;have g0:=c3.2 0;have x:=c3.2 1;have g2:=c3.2 2;have u:=c3.2 3;have g4:=c3.2 4))
     exact yak
   ·have k1: ¬ (T[0].toNat :Int)=34:=by rw[Lv.out];intro e;exact q (qu.1 yfL)
    have J7:((T[0].toNat :Int)==34)=false:=gN.2 k1
    have k1n:((T[0].toNat :Int) != 34)=true:=by rw[bne,J7];rfl
    have vB:=fun W=>yip (T[0].toNat) W
    have TO:Fx.gI T[0]=Fx.gI c:=by rw[Lv.out]
    simp only[ytd,TO] at vB
    clear TO
    obtain⟨lb,pH⟩:=bx (Fx.gI c)
    obtain⟨db,KD⟩:=bx ((c==36))
    have AG:=ib.out
    rw[bv q,<-pH,<-KD] at AG
    rw[<-pH] at vB
    have Cc:((T[0].toNat :Int)==36)=db:=by
     rw[KD,Lv.out,vs];simp only[sb];constructor
     ·intro e;exact qu.1 (by rw[show(36:UInt8).toNat =36 from rfl];omega)
     ·intro e;rw[e];rfl
    have Ke:(T[0].toNat :Int)<=255:=by have:=T[0].toNat_lt;omega
    have V7:(0:Int)<=(T[0].toNat :Int):=aG
    obtain⟨DU,DG⟩:=dY vB AG
    clear vB AG pH KD q ib
    by_cases r6:(lb || db)=true
    ·have s:=E.out
     have m:=z.out
     have Rw:=dZ List.length (sI (p:=Fx.j1) (l:=l))
     rw[j2] at Rw
     obtain⟨WR,Oh⟩:=bx (⟨(l.dropWhile Fx.j1).toArray⟩:ByteArray)
     obtain⟨WT,Of⟩:=bx (⟨(l.takeWhile Fx.j1).toArray⟩:ByteArray)
     have Og:WR.size=(l.dropWhile Fx.j1).length :=by rw[Oh,nm]
     have Xv:WR.size<=T.size:=aG
     have ED: ∀ W:World,Calls prog 58 #[.string T,.func (.func 65) #[] #[]] W (RetB (.string WR) W):=fun W=>by have:=ytj T W;rw[Y.out,<-Oh] at this;exact this
     have Mz:=ygo T WT (l.takeWhile Fx.j1).length aG (by rw[Of,Y.out];exact(yb0 _ _).symm)
     rw[show(((l.takeWhile Fx.j1).length :Nat):Int)=(T.size:Int)-(WR.size:Int) by omega] at Mz
     have HW:=aL (show v=tkv 3 ((S.size:Int)-(T.size:Int)) ((S.size:Int)-(T.size:Int)+((T.size:Int)-(WR.size:Int))) WT 0 by
      rw[N.out,DG.out,bT r6,<-f.out,Of,<-m];unfold tokV;simp only[];rw[bv bL];congr 1
      omega)
     have UA:=aL ED
     have J':T.size<=1000000000:=Cw
     clear s m Rw Oh Of Og ED
     cases lb with
     |true=>
      go_wp2_with (first|(go_at_call 64;refine cY (DU.out _) ?_)|(go_at_call 58;refine cp (UA.out _) ?_;intro w3 an;have c3:=O.out.on an;have fb:=an.size;have v0:=c3.1.get 0 rfl;have v1:=c3.1.get 1 rfl;have v2:=c3.1.get 2 rfl;have V:=c3.1.get 3 rfl;have v4:=c3.1.get 4 rfl;have U:=c3.1.1;have g0:=c3.2 0;have x:=c3.2 1;have g2:=c3.2 2;have u:=c3.2 3;have g4:=c3.2 4))
      exact yak
     |false=>
      cases db with
      |false=>exact absurd r6 bL
      |true=>
      go_wp2_with (first|(go_at_call 64;refine cY (DU.out _) ?_)|(go_at_call 58;refine cp (UA.out _) ?_;intro w3 an;have c3:=O.out.on an;have fb:=an.size;have v0:=c3.1.get 0 rfl;have v1:=c3.1.get 1 rfl;have v2:=c3.1.get 2 rfl;have V:=c3.1.get 3 rfl;have v4:=c3.1.get 4 rfl;have U:=c3.1.1;have g0:=c3.2 0;have x:=c3.2 1;have g2:=c3.2 2;have u:=c3.2 3;have g4:=c3.2 4))
      exact yak
    ·obtain⟨VU,MA⟩:lb=false/\db=false:=by cases lb<;>cases db<;>simp at r6 ⊢
     subst VU
     subst MA
     have AF:=DG.out
     rw[bv bL,<-f.out] at AF
     have DF:=aL AF
     have Sy:((T[0].toNat :Int) != 36)=true:=by rw[bne,Cc];rfl
     have Sz: ¬ (T[0].toNat :Int)=36:=fun e=>by rw[e] at Cc;cases Cc
     have RQ: ∀ (F:ByteArray) (W:World),Calls prog 66 #[.string T,.string F] W (Ret0 (.bool (Lib.hasPrefix l F.data.toList)) W):=fun F W=>(strings_HasPrefix T F W).mono fun e w' ⟨a,h2⟩=>⟨by rw[a,Y.out],h2.symm⟩
     have Lz:=aL RQ
     clear RQ AF r6 DG
     go_wp2_with (first|(go_at_call 64;refine cY (DU.out _) ?_))
     go_loopw [8] (fun nv wr=> ∃ k:Nat,1<=k/\k<=9/\nv= .int .i64 k/\Hid (∀ j:Nat,1<=j->j<k->Lib.hasPrefix l (Fx.jq (j:Nat))=false)/\Below Z.heap.size Z wr) (fun nv _=>9-(intOf nv).toNat)
     case atStart=>exact⟨1,cm,by decide,rfl,aL (fun j a h2=>by omega),eN⟩
     case round=>
      obtain⟨k,jF,BS,rfl,HP,M⟩:=hrel
      have nT:=M.size
      by_cases uq:k<=8
      ·have i1:(k:Int)<=8:=aG
       obtain⟨d,C⟩:=bx (⟨(Fx.jq (k:Nat)).toArray⟩:ByteArray)
       have xA:=fun W=>Ou (k:Int) W
       rw[<-C] at xA
       have G:=fun W=>Lz.out d W
       have H:d.data.toList=Fx.jq (k:Nat):=by rw[C]
       obtain⟨pb,J⟩:=bx (Lib.hasPrefix l (Fx.jq (k:Nat)))
       rw[H,<-J] at G
       obtain⟨ry,Jt,wP,B⟩:=jv xA G H J
       clear C xA G H J
       cases pb with
       |true=>
        have H':Fx.pq l=some k:=ytO jF uq (.inl B.out) HP.out
        have nj:=yhH B.out.symm
        have y:d.size=(Fx.jq (k:Nat)).length :=by rw[<-wP.out,dN]
        have HW:=aL (show v=tkv 4 ((S.size:Int)-(T.size:Int)) ((S.size:Int)-(T.size:Int)+(d.size:Int)) ⟨#[]⟩ k by
         rw[N.out,DF.out,H',<-z.out];unfold tokV;simp only[];rw[bv bL,rS,y];have a:=E.out;congr 1
         omega)
        have NN:d.size<=1000:=by rw[y];have:=Fx.yt7 k;omega
        clear H' nj y
        have c3:=O.out.on M;have v0:=c3.1.get 0 rfl;have v1:=c3.1.get 1 rfl;have v2:=c3.1.get 2 rfl;have V:=c3.1.get 3 rfl;have v4:=c3.1.get 4 rfl;have U:=c3.1.1;have g0:=c3.2 0;have x:=c3.2 1;have g2:=c3.2 2;have u:=c3.2 3;have g4:=c3.2 4
        go_wp2_with (first|(go_at_call 14;refine cY (ry.out _) ?_)|(go_at_call 66;refine cY (Jt.out _) ?_))
        (refine Kc results41 It (c3.1) ?_;exact I7 (HW.out) rfl rfl rfl rfl rfl oD oD oD KJ oD cm ((BZ.out.trans (M.mono BZ.out.size))))
       |false=>
        have PX:=aL (show ∀ j:Nat,1<=j->j<k+1->Lib.hasPrefix l (Fx.jq (j:Nat))=false from fun j a h2=>by
         by_cases e:j=k
         ·subst e;exact B.out.symm
         ·exact HP.out j a aG)
        go_wp2_with (first|(go_at_call 14;refine cY (ry.out _) ?_)|(go_at_call 66;refine cY (Jt.out _) ?_))
        exact⟨⟨k+1,by omega,by omega,by go_num,PX,M⟩,by simp[intOf];omega⟩
      ·have Nm:k=9:=aG
       subst Nm
       have H':Fx.pq l=none:=ywh HP.out
       have AE:=DF.out
       rw[H'] at AE
       have Jd:=aL AE
       obtain⟨⟨s0,s1,s3,sp,sG⟩, -, -, -, -⟩:=TZ.out.on M
       clear H' AE uq jF BS HP DF
       go_upto_region 20 with (fail)
       iterate 26 (try(first|go_skip|go_guarded|go_step|go_upon))
       refine yvP L 117 rfl es ?_
       obtain⟨X2,EJ⟩:=bx (wr.alloc (Obj.cells #[.string ⟨#[60,62]⟩,.string ⟨#[60,61]⟩,.string ⟨#[62,61]⟩,.string ⟨#[60]⟩,.string ⟨#[62]⟩,.string ⟨#[61]⟩,.string ⟨#[38]⟩,.string ⟨#[43]⟩,.string ⟨#[45]⟩,.string ⟨#[42]⟩,.string ⟨#[47]⟩,.string ⟨#[94]⟩,.string ⟨#[37]⟩,.string ⟨#[40]⟩,.string ⟨#[41]⟩,.string ⟨#[58]⟩,.string ⟨#[L]⟩] 9))
       rw[<-EJ]
       have dh: ∀ j (h:j<(Fx.signs L).length),X2.cell? ⟨wr.heap.size,j,none⟩=some (.string ⟨((Fx.signs L)[j]).toArray⟩):=fun j h=>by have a:=(Cs.new wr ((Fx.signs L).map fun g=>Value.string ⟨g.toArray⟩) 9).2 j nu;rw[List.getElem_map] at a;rw[EJ];exact a
       have TY:Below Z.heap.size Z X2:=by rw[EJ];exact M.alloc M.size _
       have aP:wr.heap.size<X2.heap.size:=by rw[EJ];simp
       clear EJ
       obtain⟨bk,SI⟩:=bx (wr.heap.size)
       rw[<-SI] at dh aP ⊢
       clear SI
       iterate 12 (try(first|go_skip|go_guarded|go_step|go_upon|go_back))
       go_loopw [120] (fun iv wq=> ∃ k:Nat,k<=17/\iv= .int .i64 k/\Hid (∀ j (h:j<(Fx.signs L).length),j<k->Lib.hasPrefix l (Fx.signs L)[j]=false)/\Below X2.heap.size X2 wq) (fun iv _=>17-(intOf iv).toNat)
       case atStart=>exact⟨0,by decide,rfl,aL (fun j _ h=>by omega),eN⟩
       case round=>
        obtain⟨k,WN,rfl,dU,KF⟩:=hrel
        have hzq:=KF.size
        have bq:Below Z.heap.size Z wr:=TY.trans (KF.mono TY.size)
        have c3:=O.out.on bq;have v0:=c3.1.get 0 rfl;have v1:=c3.1.get 1 rfl;have v2:=c3.1.get 2 rfl;have V:=c3.1.get 3 rfl;have v4:=c3.1.get 4 rfl;have U:=c3.1.1;have g0:=c3.2 0;have x:=c3.2 1;have g2:=c3.2 2;have u:=c3.2 3;have g4:=c3.2 4
        by_cases aW:k<17
        ·have dz:k<(Fx.signs L).length :=aW
         have i1:(k:Int)<17:=aG
         obtain⟨d,C⟩:=bx (⟨((Fx.signs L)[k]).toArray⟩:ByteArray)
         have eu:wr.cell? ⟨bk,k,none⟩=some (.string d):=by rw[C];exact(KF.cell (p:=⟨bk,k,none⟩) aP).trans (dh k dz)
         have G:=fun W=>Lz.out d W
         have H:d.data.toList=(Fx.signs L)[k]:=by rw[C]
         obtain⟨pb,J⟩:=bx (Lib.hasPrefix l (Fx.signs L)[k])
         rw[H,<-J] at G
         obtain⟨Jt,wP,B⟩:=iJ G H J
         clear C G H J
         cases pb with
         |true=>
          have GR:Fx.ss L l=some (Fx.signs L)[k]:=yoO dz B.out.symm (fun j hj=>dU.out j aG hj)
          have nj:=yhH B.out.symm
          have y:d.size=((Fx.signs L)[k]).length :=by rw[<-wP.out,dN]
          have HW:=aL (show v=tkv 5 ((S.size:Int)-(T.size:Int)) ((S.size:Int)-(T.size:Int)+(d.size:Int)) d 0 by
           rw[N.out,Jd.out,GR,<-z.out];unfold tokV;simp only[];rw[bv bL,rS];have a:=E.out;rw[<-y,<-wP.out];congr 1;rw[y]
           omega)
          have NN:d.size<=1000:=by rw[y];exact dE (ysU L k dz) bL
          clear GR nj y dh dU
          go_wp2_with (first|(go_at_call 66;refine cY (Jt.out _) ?_))
          exact ygI
         |false=>
          have PX:=aL (show ∀ j (h:j<(Fx.signs L).length),j<k+1->Lib.hasPrefix l (Fx.signs L)[j]=false from fun j a h2=>by
           by_cases e:j=k
           ·subst e;exact B.out.symm
           ·exact dU.out j a aG)
          clear dU dh
          go_wp2_with (first|(go_at_call 66;refine cY (Jt.out _) ?_))
          exact⟨⟨k+1,by omega,by go_num,PX,KF⟩,by simp[intOf];omega⟩
        ·have Hu:k=17:=aG
         subst Hu
         have GR:Fx.ss L l=none:=ysr (fun j hj=>dU.out j hj hj)
         have HW:=aL (show v=tkv 6 ((S.size:Int)-(T.size:Int)) 0 ⟨#[]⟩ 0 by
          rw[N.out,Jd.out,GR,<-z.out]
          rfl)
         clear GR dU dh
         go_wp2_with fail
         exact ygI
def yq3 (p g:Nat) (D L:UInt8) (S:ByteArray) (i:Nat) (w:World) (a:Tp w p g D L S i) (hz:S.size<=1000000):
 Calls prog 41 #[.pointer (some ⟨p,0,none⟩)] w (RetB (tokV S (Fx.tok D L (S.data.toList.drop i))) w):=by
 by_cases h:Fx.skip (S.data.toList.drop i)=[]
 ·exact ytW p g D L S i w a hz h
 ·exact ynW p g D L S i w a hz (fun T A W e d c b=>ywO p g D L T A W e d c b) h
end Go.Proofs.YtilbpmimoijfhaaGreatDoor
