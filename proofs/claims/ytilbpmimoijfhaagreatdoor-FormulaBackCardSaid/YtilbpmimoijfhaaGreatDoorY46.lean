/- Formulas: a number, a text, a Boolean, an error, a cell are written. -/
import Derived.Test.YtilbpmimoijfhaaGreatDoorY45
import Derived.Test.YtilbpmimoijfhaaGreatDoorY38
import Derived.Test.YtilbpmimoijfhaaGreatDoorY40
namespace Go.Proofs.YtilbpmimoijfhaaGreatDoor
set_option linter.all false
set_option maxRecDepth 100000
set_option maxHeartbeats 16000000
open Go.RowKit Go.Proofs.Tryz
section
open Fx (Tr)
def ynz (Z:ByteArray) (D:UInt8) (w:World) (hz:Z.size<=100000) (hm: ∃ m,w.cell? ⟨2,0,none⟩=some (.int .i64 m)):
 Calls prog 45 #[.string Z,.string ⟨#[46]⟩,.string ⟨#[D]⟩,.int .i64 1] w (RetB (.string ⟨(Fx.dot D Z.data.toList).toArray⟩) w):=by
 obtain⟨m,hm⟩:=hm
 have h:=strings_Replace Z ⟨#[46]⟩ ⟨#[D]⟩ 1 m w aG hm bL (by
  have b:Lib.countB Z ⟨#[46]⟩<=Z.size:=Lib.countB_le ⟨#[46]⟩ bL _ Z cm;have a:(⟨#[D]⟩:ByteArray).size =1:=rfl
  rw[a];omega)
 have e:Lib.replace Z.data.toList (⟨#[46]⟩:ByteArray).data.toList (⟨#[D]⟩:ByteArray).data.toList 1=Fx.dot D Z.data.toList:=Fx.yox D _;rw[e] at h;exact h
def ytS (Z:ByteArray) (w:World) (hz:Z.size<=100000) (hm: ∃ m,w.cell? ⟨2,0,none⟩=some (.int .i64 m)):
 Calls prog 47 #[.string Z,.string ⟨#[34]⟩,.string ⟨#[34,34]⟩] w (RetB (.string ⟨(Fx.dbl Z.data.toList).toArray⟩) w):=by
 obtain⟨m,hm⟩:=hm
 have h:=strings_ReplaceAll Z ⟨#[34]⟩ ⟨#[34,34]⟩ m w aG hm bL (by
  have b:Lib.countB Z ⟨#[34]⟩<=Z.size:=Lib.countB_le ⟨#[34]⟩ bL _ Z cm;have a:(⟨#[34,34]⟩:ByteArray).size =2:=rfl
  rw[a];omega)
 have e:Lib.replaceAll Z.data.toList (⟨#[34]⟩:ByteArray).data.toList (⟨#[34,34]⟩:ByteArray).data.toList =Fx.dbl Z.data.toList:=Fx.ygy _;rw[e] at h;exact h
def ynR (X:Nat) (T:ByteArray) (I:Bool) (F E C:Int) (B a4:Bool) (c1 c2:Int) (c3 c4:Bool) (a:Option Addr) (m c:Nat) (g b vv b2:Nat) (D L:UInt8) (w:World) (y:X<18446744073709551616) (f:FoP w g b vv b2 D L):
 Calls prog 38 #[.pointer (some ⟨g,0,none⟩),.agg #[.int .i64 1,.int .u64 X,.string T,.bool I,.int .i64 F,.int .i64 E,.int .i64 C,.bool B,.bool a4,.int .i64 c1,.int .i64 c2,.bool c3,.bool c4,.slice a m c]] w
  (RetR b2 (.string ⟨(Fx.dot D (Fl.oQ X)).toArray⟩) w):=by
 obtain⟨Z,j⟩:=bx (⟨(Fl.oQ X).toArray⟩:ByteArray);have J:Z.data.toList=Fl.oQ X:=by rw[j]
 have U:Z.size<=100000:=by rw[j,nm];have:=Fl.ykX X;omega
 have G: ∀ W,FoP W g b vv b2 D L->Calls prog 46 #[.pointer (some ⟨vv,0,none⟩),.int .u64 X] W (RetR b2 (.string Z) W):=fun W h=>by rw[j];exact yu2 vv b2 X W h.tb y h.fw.wr
 rw[<-J];obtain⟨Y,q⟩:=bx (⟨(Fx.dot D Z.data.toList).toArray⟩:ByteArray);have t: ∀ W,FoP W g b vv b2 D L->Calls prog 45 #[.string Z,.string ⟨#[46]⟩,.string ⟨#[D]⟩,.int .i64 1] W (RetB (.string Y) W):=fun W h=>by rw[q];exact ynz Z D W U h.mx
 rw[<-q];have Ez:=f.fw.fo.gl;have z:=f.fw.wr.rd.lt;have A:=f.fw.ng;obtain⟨HP,HR⟩:=dY G t;clear G t q j J y;have hd:=f.fw.fo.dec;have Q:=f.fw.wrc;go_enter func38,ntmps38
 go_upto_region 3 with (fail)
 obtain⟨W,hW⟩:=bx (w.alloc (.cells #[.int .i64 1,.int .u64 X,.string T,.bool I,.int .i64 F,.int .i64 E,.int .i64 C,.bool B,.bool a4,.int .i64 c1,.int .i64 c2,.bool c3,.bool c4,.slice a m c] 27));have r:Below w.heap.size w W:=by rw[hW];exact ek
 have k:=f.on r;have O:W.cell? ⟨g,11,none⟩=some (.pointer (some ⟨vv,0,none⟩)):=k.fw.wrc;have N:W.cell? ⟨g,1,none⟩=some (.string ⟨#[D]⟩):=k.fw.fo.dec;have M:W.cell? ⟨w.heap.size,1,none⟩=some (.int .u64 X):=qd;have hl:w.heap.size<W.heap.size:=by rw[hW];simp
 have l:g<W.heap.size:=aG;obtain⟨s,HB⟩:=dY k r;have P:w.heap.size≠b2:=aG;rw[<-hW];clear hW r k f hd Q
 go_region_held3 (fun w'=>w'.cell? ⟨g,11,none⟩=some (.pointer (some ⟨vv,0,none⟩))/\w'.cell? ⟨g,1,none⟩=some (.string ⟨#[D]⟩)/\w'.cell? ⟨w.heap.size,1,none⟩=some (.int .u64 X))
  (first|go_keep|exact⟨K,v,H⟩|exact⟨V,R,S⟩)
  (first|(go_at_call 46;(with_reducible refine(HP.out _ (by first|exact s.out|exact s.out.on dt)).mono ?_);rintro e n ⟨rfl,ho,x⟩;have d:Onl b2 W n:=yeL;have K:=(d.cell (o:=11) A l).trans O;have v:=(d.cell (o:=1) A l).trans N;have H:=(d.cell (o:=1) P hl).trans M;have u:=aL (s.out.onl d x))|(go_at_call 45;(with_reducible refine(HR.out _ (by first|exact u.out|exact u.out.on dt)).mono ?_);rintro e w3 ⟨rfl,aU⟩;have i:Below n.heap.size n w3:=yfg;have V:=(i.cell (p:=⟨g,11,none⟩) (eR l d.size)).trans K;have R:=(i.cell (p:=⟨g,1,none⟩) (eR l d.size)).trans v;have S:=(i.cell (p:=⟨w.heap.size,1,none⟩) (eR hl d.size)).trans H))
 all_goals(go_wp2_with fail;go_ret)
 all_goals(exact⟨rfl,((Onl.of z HB.out).trans d).more z i,x.on i⟩)
def ym9 (X:Nat) (T:ByteArray) (I:Bool) (F u t:Int) (s a4:Bool) (c1 c2:Int) (c3 c4:Bool) (a:Option Addr) (m c:Nat) (g b vv b2:Nat) (D L:UInt8) (w:World) (C:T.size<=1000) (i:FoP w g b vv b2 D L):
 Calls prog 38 #[.pointer (some ⟨g,0,none⟩),.agg #[.int .i64 2,.int .u64 X,.string T,.bool I,.int .i64 F,.int .i64 u,.int .i64 t,.bool s,.bool a4,.int .i64 c1,.int .i64 c2,.bool c3,.bool c4,.slice a m c]] w
  (RetR b2 (.string ⟨(34::(Fx.dbl T.data.toList++[34])).toArray⟩) w):=by
 obtain⟨Y,d⟩:=bx (⟨(Fx.dbl T.data.toList).toArray⟩:ByteArray);have j: ∀ W,FoP W g b vv b2 D L->Calls prog 47 #[.string T,.string ⟨#[34]⟩,.string ⟨#[34,34]⟩] W (RetB (.string Y) W):=fun W h=>by rw[d];exact ytS T W aG h.mx
 have n:Y.data.toList=Fx.dbl T.data.toList:=by rw[d]
 have q:Y.size<=2000:=by rw[d,nm];have:=Fx.yc9 T.data.toList;rw[dN] at this;omega
 rw[<-n];obtain⟨A,f⟩:=bx (⟨#[34]⟩++Y++⟨#[34]⟩:ByteArray);have l:(⟨(34::(Y.data.toList++[34])).toArray⟩:ByteArray)=A:=by rw[f];refine Dc.qR _ _ ?_;simp
 rw[l];have r:=i.fw.wr.rd.lt;obtain⟨v,x,o⟩:=iJ j f i;have B: ¬ 9223372036854775807<1+Y.size:=aG;have z: ¬ 9223372036854775807<1+Y.size+1:=aG;clear j d n f l i;go_enter func38,ntmps38
 go_wp2_with (first|(go_at_call 47;(with_reducible refine(v.out _ (o.out.on dt)).mono ?_);rintro e y ⟨rfl,ab⟩;refine tE ?_;intro ao ay az af ai am al aj ag ap))
 go_ret
 exact⟨by rw[x.out];rfl,Onl.of r ao,o.out.fw.wr.rd.on ao⟩
def ypO (X:Nat) (T:ByteArray) (I:Bool) (F i f:Int) (e a4:Bool) (c1 c2:Int) (c3 c4:Bool) (a:Option Addr) (m c:Nat) (g b vv b2:Nat) (D L:UInt8) (w:World) (d:FoP w g b vv b2 D L):
 Calls prog 38 #[.pointer (some ⟨g,0,none⟩),.agg #[.int .i64 3,.int .u64 X,.string T,.bool I,.int .i64 F,.int .i64 i,.int .i64 f,.bool e,.bool a4,.int .i64 c1,.int .i64 c2,.bool c3,.bool c4,.slice a m c]] w
  (RetR b2 (.string ⟨(if I then[84,82,85,69] else[70,65,76,83,69]:List UInt8).toArray⟩) w):=by
 have j:=d.fw.wr.rd.lt;have HF:=aL d;clear d
 cases I with
 |true=>
  go_enter func38,ntmps38
  go_wp2_with fail
  exact yfJ
 |false=>
  go_enter func38,ntmps38
  go_wp2_with fail
  exact yfJ
def yoo (X:Nat) (T:ByteArray) (I:Bool) (F j i:Int) (f a4:Bool) (c1 c2:Int) (c3 c4:Bool) (a:Option Addr) (m c:Nat) (g b vv b2:Nat) (D L:UInt8) (w:World) (d:FoP w g b vv b2 D L):
 Calls prog 38 #[.pointer (some ⟨g,0,none⟩),.agg #[.int .i64 4,.int .u64 X,.string T,.bool I,.int .i64 F,.int .i64 j,.int .i64 i,.bool f,.bool a4,.int .i64 c1,.int .i64 c2,.bool c3,.bool c4,.slice a m c]] w
  (RetR b2 (.string ⟨(Fx.jq F).toArray⟩) w):=by
 have hl:=fun W=>Ou F W;obtain⟨Y,e⟩:=bx (⟨(Fx.jq F).toArray⟩:ByteArray);rw[<-e] at hl ⊢;have l:=d.fw.wr.rd.lt;obtain⟨HF,k⟩:=dY d hl;clear d hl e;go_enter func38,ntmps38
 go_wp2_with (first|(go_at_call 14;refine cY (k.out _) ?_))
 exact yfJ
def yum (X:Nat) (T:ByteArray) (I:Bool) (F i f:Int) (d a4:Bool) (c1 c2:Int) (c3 c4:Bool) (a:Option Addr) (m c:Nat) (g b vv b2:Nat) (D L:UInt8) (w:World) (j:FoP w g b vv b2 D L):
 Calls prog 38 #[.pointer (some ⟨g,0,none⟩),.agg #[.int .i64 5,.int .u64 X,.string T,.bool I,.int .i64 F,.int .i64 i,.int .i64 f,.bool d,.bool a4,.int .i64 c1,.int .i64 c2,.bool c3,.bool c4,.slice a m c]] w
  (RetR b2 (.string ⟨(Ce.print ⟨i,f,d,a4⟩).toArray⟩) w):=by
 have hl:=fun W (h:Tab W)=>yea i f d a4 W h;obtain⟨Y,l⟩:=bx (⟨(Ce.print ⟨i,f,d,a4⟩).toArray⟩:ByteArray);rw[<-l] at hl ⊢;have r:=j.fw.wr.rd.lt;obtain⟨n,o⟩:=dY j hl;clear j hl l;go_enter func38,ntmps38
 go_wp2_with (first|(go_at_call 48;(with_reducible refine(o.out _ (n.out.on dt).tb.tab).mono ?_);rintro e q ⟨rfl,ab⟩;refine tE ?_;intro ao ay az af ai am al aj ag ap))
 go_ret
 exact n.out.ret ao _
def yoQ (X:Nat) (T:ByteArray) (I:Bool) (F i f:Int) (d a4:Bool) (c1 c2:Int) (c3 c4:Bool) (a:Option Addr) (m c:Nat) (g b vv b2:Nat) (D L:UInt8) (w:World) (l:FoP w g b vv b2 D L):
 Calls prog 38 #[.pointer (some ⟨g,0,none⟩),.agg #[.int .i64 6,.int .u64 X,.string T,.bool I,.int .i64 F,.int .i64 i,.int .i64 f,.bool d,.bool a4,.int .i64 c1,.int .i64 c2,.bool c3,.bool c4,.slice a m c]] w
  (RetR b2 (.string ⟨(Ce.print ⟨i,f,d,a4⟩++58::Ce.print ⟨c1,c2,c3,c4⟩).toArray⟩) w):=by
 have q:=fun W (h:Tab W)=>yea i f d a4 W h;have r:=fun W (h:Tab W)=>yea c1 c2 c3 c4 W h;have x:=Fx.Tt ⟨i,f,d,a4⟩;have v:=Fx.Tt ⟨c1,c2,c3,c4⟩;obtain⟨Y,k⟩:=bx (⟨(Ce.print ⟨i,f,d,a4⟩).toArray⟩:ByteArray);obtain⟨Z,j⟩:=bx (⟨(Ce.print ⟨c1,c2,c3,c4⟩).toArray⟩:ByteArray);rw[<-k] at q;rw[<-j] at r;have z1:Y.size<=11:=by rw[k,nm];exact x
 have z2:Z.size<=11:=by rw[j,nm];exact v
 obtain⟨A,t⟩:=bx (Y++⟨#[58]⟩++Z:ByteArray);have y:(⟨(Ce.print ⟨i,f,d,a4⟩++58::Ce.print ⟨c1,c2,c3,c4⟩).toArray⟩:ByteArray)=A:=by rw[t,k,j];refine Dc.qR _ _ ?_;simp
 rw[y];have bQ:=l.fw.wr.rd.lt;have s1: ¬ 9223372036854775807<Y.size+1:=aG;have V: ¬ 9223372036854775807<Y.size+1+Z.size:=aG;obtain⟨O,P,S⟩:=iJ q r t;clear q r k j t y x v;have U:=aL l;go_enter func38,ntmps38
 go_upto_region 15 with (fail)
 obtain⟨W,hW⟩:=bx (w.alloc (.cells #[.int .i64 6,.int .u64 X,.string T,.bool I,.int .i64 F,.int .i64 i,.int .i64 f,.bool d,.bool a4,.int .i64 c1,.int .i64 c2,.bool c3,.bool c4,.slice a m c] 27));have s:Below w.heap.size w W:=by rw[hW];exact ek
 have J:W.cell? ⟨w.heap.size,5,none⟩=some (.int .i64 i):=qd;have H:W.cell? ⟨w.heap.size,6,none⟩=some (.int .i64 f):=qd;have G:W.cell? ⟨w.heap.size,7,none⟩=some (.bool d):=qd;have E:W.cell? ⟨w.heap.size,8,none⟩=some (.bool a4):=qd;have C:W.cell? ⟨w.heap.size,9,none⟩=some (.int .i64 c1):=qd;have K:W.cell? ⟨w.heap.size,10,none⟩=some (.int .i64 c2):=qd;have M:W.cell? ⟨w.heap.size,11,none⟩=some (.bool c3):=qd;have N:W.cell? ⟨w.heap.size,12,none⟩=some (.bool c4):=qd;have hl:w.heap.size<W.heap.size:=by rw[hW];simp
 have z:=aL (l.on s);have R:=aL s;rw[<-hW];clear hW s l
 go_region_held3 (fun w'=>w'.cell? ⟨w.heap.size,5,none⟩=some (.int .i64 i)/\w'.cell? ⟨w.heap.size,6,none⟩=some (.int .i64 f)/\w'.cell? ⟨w.heap.size,7,none⟩=some (.bool d)/\w'.cell? ⟨w.heap.size,8,none⟩=some (.bool a4)/\w'.cell? ⟨w.heap.size,9,none⟩=some (.int .i64 c1)/\w'.cell? ⟨w.heap.size,10,none⟩=some (.int .i64 c2)/\w'.cell? ⟨w.heap.size,11,none⟩=some (.bool c3)/\w'.cell? ⟨w.heap.size,12,none⟩=some (.bool c4))
  (first|exact⟨(oL (B:=W.heap.size) (w:=W) (p:=⟨w.heap.size,5,none⟩) dt hl).trans J,(oL (B:=W.heap.size) (w:=W) (p:=⟨w.heap.size,6,none⟩) dt hl).trans H,(oL (B:=W.heap.size) (w:=W) (p:=⟨w.heap.size,7,none⟩) dt hl).trans G,(oL (B:=W.heap.size) (w:=W) (p:=⟨w.heap.size,8,none⟩) dt hl).trans E,(oL (B:=W.heap.size) (w:=W) (p:=⟨w.heap.size,9,none⟩) dt hl).trans C,(oL (B:=W.heap.size) (w:=W) (p:=⟨w.heap.size,10,none⟩) dt hl).trans K,(oL (B:=W.heap.size) (w:=W) (p:=⟨w.heap.size,11,none⟩) dt hl).trans M,(oL (B:=W.heap.size) (w:=W) (p:=⟨w.heap.size,12,none⟩) dt hl).trans N⟩|go_keep)
  (first|(go_at_call 48;(with_reducible refine(O.out _ (z.out.on dt).tb.tab).mono ?_);rintro e n ⟨rfl,hb2⟩;have o:Below W.heap.size W n:=(by first|exact hb2|exact(eN.drew).trans hb2);have ko:=o.size)|(go_at_call 48;(with_reducible refine(P.out _ (z.out.on dt).tb.tab).mono ?_);rintro e w3 ⟨rfl,aU⟩;have Q:Below n.heap.size n w3:=yfg;have u:Below W.heap.size W w3:=o.trans (Q.mono o.size);have bP:=u.size))
 all_goals(go_wp2_with fail;go_ret)
 all_goals(rw[S.out];exact U.out.ret (R.out.trans (u.mono (lY hl))) _)
end

section
open Fx (Tr)
attribute [local go_sem ↓] qh qn
def CE {w:World} {b o:Nat} {t:Tr} {v:Value} (h:NodeAt w b o t v):(ox (.pointer (some ⟨b,o,none⟩))).run prog w= .ok (trv t v) w:=by obtain⟨d,a,hd⟩:=VQ;exact yco w b o _ (trc t v) d (fun j v hv=>h j v hv) a hd (by rw[OP];rfl)
def TreeAt.onl {w w':World} {lo hi b2:Nat} {t:Tr} {v:Value} (h:TreeAt w lo hi t v) (a:Onl b2 w w') (hd:b2<lo∨hi<=b2) (b:hi<=w.heap.size):TreeAt w' lo hi t v:=
 TreeAt.kept cm cm (fun k d c=>a.block k aG aG) _ cm h
def yrv (X:Nat) (T:ByteArray) (I:Bool) (F r q:Int) (n a4:Bool) (c1 c2:Int) (c3 c4:Bool) (bk o c:Nat) (k:Tr) (a:Value) (S:ByteArray) (g b vv b2 lo hi:Nat) (D L:UInt8) (w:World)
 (m:KidC k a 6 S g b vv b2 lo hi D L) (j:TreeAt w lo hi k a) (hn:NodeAt w bk o k a) (y:lo<=bk) (x:bk<hi) (l:hi<=w.heap.size) (hd:b2<lo∨hi<=b2) (v:1<=c) (s:T.size<=100) (t:S.size<=100000000) (d:FoP w g b vv b2 D L):
 Calls prog 38 #[.pointer (some ⟨g,0,none⟩),.agg #[.int .i64 7,.int .u64 X,.string T,.bool I,.int .i64 F,.int .i64 r,.int .i64 q,.bool n,.bool a4,.int .i64 c1,.int .i64 c2,.bool c3,.bool c4,.slice (some ⟨bk,o,none⟩) 1 c]] w
  (RetR b2 (.string (T++S)) w):=by
 have f: ∀ W,Below w.heap.size w W->Calls prog 49 #[.pointer (some ⟨g,0,none⟩),trv k a,.int .i64 6] W (RetR b2 (.string S) W):=fun W hW=>m W (d.on hW) (j.below hW l) (dE l hW.size);have i: ∀ W,W.heap[bk]? =w.heap[bk]?->(ox (.pointer (some ⟨bk,o,none⟩))).run prog W= .ok (trv k a) W:=fun W hW=>CE (hn.kept hW);obtain⟨V,hV⟩:=bx (trv k a);rw[<-hV] at f i;have A:=d.fw.fo.gl;have bQ:=d.fw.wr.rd.lt;have u: ¬ 9223372036854775807<T.size+S.size:=aG;obtain⟨HK,HL,z⟩:=iJ f i d;have fe:bk<w.heap.size:=aG;have hb2:bk≠b2:=aG;clear f i d m j hn hV s t;go_enter func38,ntmps38
 go_upto_region 17 with (fail)
 obtain⟨W,hW⟩:=bx (w.alloc (.cells #[.int .i64 7,.int .u64 X,.string T,.bool I,.int .i64 F,.int .i64 r,.int .i64 q,.bool n,.bool a4,.int .i64 c1,.int .i64 c2,.bool c3,.bool c4,.slice (some ⟨bk,o,none⟩) 1 c] 27));exact ykZ
def ypN (X:Nat) (T:ByteArray) (I:Bool) (F r q:Int) (n a4:Bool) (c1 c2:Int) (c3 c4:Bool) (bk o c:Nat) (k:Tr) (a:Value) (S:ByteArray) (g b vv b2 lo hi:Nat) (D L:UInt8) (w:World)
 (m:KidC k a 7 S g b vv b2 lo hi D L) (j:TreeAt w lo hi k a) (hn:NodeAt w bk o k a) (y:lo<=bk) (x:bk<hi) (l:hi<=w.heap.size) (hd:b2<lo∨hi<=b2) (v:1<=c) (s:T.size<=100) (t:S.size<=100000000) (d:FoP w g b vv b2 D L):
 Calls prog 38 #[.pointer (some ⟨g,0,none⟩),.agg #[.int .i64 9,.int .u64 X,.string T,.bool I,.int .i64 F,.int .i64 r,.int .i64 q,.bool n,.bool a4,.int .i64 c1,.int .i64 c2,.bool c3,.bool c4,.slice (some ⟨bk,o,none⟩) 1 c]] w
  (RetR b2 (.string (S++T)) w):=by
 have f: ∀ W,Below w.heap.size w W->Calls prog 49 #[.pointer (some ⟨g,0,none⟩),trv k a,.int .i64 7] W (RetR b2 (.string S) W):=fun W hW=>m W (d.on hW) (j.below hW l) (dE l hW.size);have i: ∀ W,W.heap[bk]? =w.heap[bk]?->(ox (.pointer (some ⟨bk,o,none⟩))).run prog W= .ok (trv k a) W:=fun W hW=>CE (hn.kept hW);obtain⟨V,hV⟩:=bx (trv k a);rw[<-hV] at f i;have A:=d.fw.fo.gl;have bQ:=d.fw.wr.rd.lt;have u: ¬ 9223372036854775807<S.size+T.size:=aG;obtain⟨HK,HL,z⟩:=iJ f i d;have fe:bk<w.heap.size:=aG;have hb2:bk≠b2:=aG;clear f i d m j hn hV s t;go_enter func38,ntmps38
 go_upto_region 19 with (fail)
 obtain⟨W,hW⟩:=bx (w.alloc (.cells #[.int .i64 9,.int .u64 X,.string T,.bool I,.int .i64 F,.int .i64 r,.int .i64 q,.bool n,.bool a4,.int .i64 c1,.int .i64 c2,.bool c3,.bool c4,.slice (some ⟨bk,o,none⟩) 1 c] 27));exact ykZ
def ypk (X:Nat) (T:ByteArray) (I:Bool) (F a1 a2:Int) (a3 a4:Bool) (c1 c2:Int) (c3 c4:Bool) (a o c:Nat) (j d:Tr) (v1 v2:Value) (l r:ByteArray) (g b vv b2 lo hi:Nat) (D L:UInt8) (w:World)
 (K:KidC j v1 (Fx.eT T.data.toList) l g b vv b2 lo hi D L) (x:KidC d v2 (Fx.eT T.data.toList+1) r g b vv b2 lo hi D L) (U:TreeAt w lo hi j v1) (Y:TreeAt w lo hi d v2) (S:NodeAt w a o j v1) (Ko:NodeAt w a (o+14) d v2) (h1:lo<=a) (h2:a<hi) (y:hi<=w.heap.size) (hd:b2<lo∨hi<=b2) (hc:2<=c) (hT:T.size<=100) (v8:l.size<=100000000) (my:r.size<=100000000) (k:FoP w g b vv b2 D L):
 Calls prog 38 #[.pointer (some ⟨g,0,none⟩),.agg #[.int .i64 8,.int .u64 X,.string T,.bool I,.int .i64 F,.int .i64 a1,.int .i64 a2,.bool a3,.bool a4,.int .i64 c1,.int .i64 c2,.bool c3,.bool c4,.slice (some ⟨a,o,none⟩) 2 c]] w
  (RetR b2 (.string (l++T++r)) w):=by
 have Ez:=k.fw.fo.gl;have bQ:=k.fw.wr.rd.lt;obtain⟨N,E⟩:=bx (Fx.eT T.data.toList);obtain⟨M,G⟩:=bx (N+1);have B:=fun W=>Es T W;have rg:N<=5:=by rw[E];exact Fx.yfM _
 rw[<-E] at K x B;rw[<-G] at x;have eM:(N:Int)+1=(M:Int):=aG;have i5:(N:Int)<=5:=aG;have eW:IntKind.i64.wrap (M:Int)=(M:Int):=P7 _ aG;have i0:(0:Int)<=(N:Int):=aG;have O: ∀ W,Onl b2 w W->Rdr W b2->Calls prog 49 #[.pointer (some ⟨g,0,none⟩),trv j v1,.int .i64 N] W (RetR b2 (.string l) W):=fun W ho n=>K W (k.onl ho n) (U.onl ho hd y) (dE y ho.size);have P: ∀ W,Onl b2 w W->Rdr W b2->Calls prog 49 #[.pointer (some ⟨g,0,none⟩),trv d v2,.int .i64 M] W (RetR b2 (.string r) W):=fun W ho n=>x W (k.onl ho n) (Y.onl ho hd y) (dE y ho.size);have H: ∀ W,W.heap[a]? =w.heap[a]?->(ox (.pointer (some ⟨a,o,none⟩))).run prog W= .ok (trv j v1) W:=fun W hW=>CE (S.kept hW);have z: ∀ W,W.heap[a]? =w.heap[a]?->(ox (.pointer (some ⟨a,o+14,none⟩))).run prog W= .ok (trv d v2) W:=fun W hW=>CE (Ko.kept hW);obtain⟨V1,R⟩: ∃ V,V=trv j v1:=⟨_,rfl⟩;obtain⟨V2,cz⟩: ∃ V,V=trv d v2:=⟨_,rfl⟩;rw[<-R] at O H;rw[<-cz] at P z;have s1: ¬ 9223372036854775807<l.size+T.size:=aG;have s2: ¬ 9223372036854775807<l.size+T.size+r.size:=aG;obtain⟨Ql,ZZ,t,v,qH⟩:=qF O P H z B;have kf:=aL k.fw.wr.rd;have i:a<w.heap.size:=aG;have hb2:a≠b2:=aG;have HM:=aL G;clear O P H z k K x U Y S Ko R cz hT v8 my B E G;go_enter func38,ntmps38
 go_upto_region 22 with (first|(go_at_call 50;refine cY (qH.out _) ?_))
 obtain⟨W,hW⟩:=bx (w.alloc (.cells #[.int .i64 8,.int .u64 X,.string T,.bool I,.int .i64 F,.int .i64 a1,.int .i64 a2,.bool a3,.bool a4,.int .i64 c1,.int .i64 c2,.bool c3,.bool c4,.slice (some ⟨a,o,none⟩) 2 c] 27));have f:Below w.heap.size w W:=by rw[hW];exact ek
 have Q:W.cell? ⟨w.heap.size,2,none⟩=some (.string T):=qd;have ky:W.cell? ⟨w.heap.size,13,none⟩=some (.slice (some ⟨a,o,none⟩) 2 c):=qd;have xa:=t.out W (f.block a i);have xb:=v.out W (f.block a i);have UQ:=t.out W.drew (f.block a i);have UP:=v.out W.drew (f.block a i);have hl:w.heap.size<W.heap.size:=by rw[hW];simp
 have u:w.heap.size≠b2:=aG;have C:=Onl.of bQ f;have HO:=aL C;have ZK:=aL C.drew1;have qE:=aL (kf.out.on f);have PK:=aL (kf.out.on f.drew);rw[<-hW];clear hW f C
 go_region_held3 (fun w'=>w'.cell? ⟨w.heap.size,2,none⟩=some (.string T)/\w'.cell? ⟨w.heap.size,13,none⟩=some (.slice (some ⟨a,o,none⟩) 2 c)/\(ox (.pointer (some ⟨a,o,none⟩))).run prog w'= .ok V1 w'/\(ox (.pointer (some ⟨a,o+14,none⟩))).run prog w'= .ok V2 w')
  (first|go_keep|exact⟨m2,VC,ma,mb⟩|exact⟨d,Ei,ka,kb⟩|exact⟨Q,ky,UQ,UP⟩)
  (first|(go_at_call 49;(with_reducible refine(Ql.out _ (by first|exact HO.out|exact ZK.out) (by first|exact qE.out|exact PK.out)).mono ?_);rintro e s ⟨rfl,ho,n⟩;have q:Onl b2 W s:=yeL;have d:=(q.cell (o:=2) u hl).trans Q;have Ei:=(q.cell (o:=13) u hl).trans ky;have m:=aL (HO.out.trans q);have Z:=aL n;have ka:=t.out s (m.out.block a hb2 i);have kb:=v.out s (m.out.block a hb2 i))|(go_at_call 49;(with_reducible refine(ZZ.out _ (by first|exact m.out|exact m.out.drew1) (by first|exact Z.out|exact Z.out.on eN.drew)).mono ?_);rintro e w3 ⟨rfl,dx,RI⟩;have A:Onl b2 s w3:=(by first|exact dx|exact(Onl.drew1 (Onl.refl _ _)).trans dx);have m2:=(A.cell (o:=2) u (eR hl q.size)).trans d;have VC:=(A.cell (o:=13) u (eR hl q.size)).trans Ei;have J:=aL (m.out.trans A);have Uo:=aL RI;have ma:=t.out w3 (J.out.block a hb2 i);have mb:=v.out w3 (J.out.block a hb2 i)))
 all_goals(go_wp2_with fail;go_ret)
 all_goals(exact⟨rfl,J.out,RI⟩)
end

section
open Fx (Tr)
attribute [local go_sem ↓] qh qn
def Onl.grown {b:Nat} {a w w':World} {row:Option Nat} (h:Onl b a w) (hg:w.grownBy w' row) (c: ∀ k,row=some k->a.heap.size<=k) (hb:b<a.heap.size):Onl b a w':=
 ⟨h.below.grown hg (by have:=h.size;omega) (fun k e=>by have:=c k e;omega),fun k d hl=>(hg.block k (eR hl h.size) (fun e=>by have:=c k e.symm;omega)).trans (h.block k d hl)⟩
def Rdr.off2 {b:Nat} {w w':World} {row:Option Nat} (h:Rdr w b) (hg:w.grownBy w' row) (hb:row=some b->False):Rdr w' b:=by have c:=hg.block b h.lt (fun e=>hb e.symm);exact⟨eR h.lt hg.size,fun o=>(ygq (a:=⟨b,o,none⟩) c).trans (h.free o),fun n f d=>(h.slot n f d).imp (fun s=>s.same fun o'=>sf (a:=⟨b,o',none⟩) c) (fun s=>s.same fun o'=>sf (a:=⟨b,o',none⟩) c)⟩
def strs (D L:UInt8) (ks:List Tr):List Value:=ks.map fun t=> .string ⟨(Fx.text D L t).toArray⟩
def yp4 (D L:UInt8) {ks:List Tr} {k:Nat} (a:k<ks.length):strs D L (ks.take (k+1))=strs D L (ks.take k)++[.string ⟨(Fx.text D L ks[k]).toArray⟩]:=by unfold strs;rw[yh a,List.map_append];rfl
def ysw {w:World} {base m cv:Nat} {b:Option Addr} {ks:List Tr} (D L:UInt8) (h:RowG w base 9 1 (.slice b m cv) m (strs D L ks)) (hm:m=ks.length) (n:m<=30) (q:(Fx.mt L (ks.map (Fx.text D L))).length <=100000000):
 Calls prog 51 #[.slice b m cv,.string ⟨#[L]⟩] w (RetB (.string ⟨(Fx.mt L (ks.map (Fx.text D L))).toArray⟩) w):=by
 rcases ty m with a|a
 ·subst a;obtain rfl:ks=[]:=sV.1 hm.symm;refine(strings_Join_none b cv ⟨#[L]⟩ w).mono fun e w' ⟨k,i⟩=>?_;subst i;subst k;exact RetB.of rfl eN
 ·obtain⟨g,cap,e,o,c,d,l,_⟩:=h.get a;cases e
  have hj:=strings_Join g 0 cv (ks.map fun t=>⟨(Fx.text D L t).toArray⟩) ⟨#[L]⟩ w (fun j x hx=>by
   rw[iR];refine l j _ ?_;unfold strs;rw[TU];rw[TU] at hx;obtain⟨t,f,rfl⟩:=Option.map_eq_some_iff.1 hx
   rw[f];rfl) c (by rw[G0,<-hm];omega) (by rw[G0,<-hm];exact d)
  have e:(ks.map fun t=>(⟨(Fx.text D L t).toArray⟩:ByteArray)).map (·.data.toList)=ks.map (Fx.text D L):=by rw[List.map_map];exact List.map_congr_left fun _ _=>rfl
  rw[e,show(⟨#[L]⟩:ByteArray).data.toList =[L] from rfl,Fx.yhg,G0,<-hm] at hj;exact hj aG
def ywn:(prog.info? 9).map (fun i=>(i.zero,i.size,i.bytes))=some (some (.string ⟨#[]⟩),1,16):=cI
def yuH (K:Int) (X:Nat) (T:ByteArray) (I:Bool) (F a1 a2:Int) (a3 a4:Bool) (c1 c2:Int) (c3 c4:Bool) (a:Option Addr) (m c:Nat) (ks:List Tr) (g b vv b2 lo hi:Nat) (D L:UInt8) (w:World)
 (x:K=10) (hm:m=ks.length) (ro:m<=30) (hc:m<=c) (r:0<m-> ∃ d o,a=some ⟨d,o,none⟩/\lo<=d/\d<hi/\RowT w lo hi d ks o)
 (hT: ∀ k (h:k<ks.length) l,yaF ks[k] l ⟨(Fx.text D L ks[k]).toArray⟩ g b vv b2 lo hi D L) (hh:hi<=w.heap.size) (hd:b2<lo∨hi<=b2) (gY:T.size<=100) (aH:(Fx.mt L (ks.map (Fx.text D L))).length <=100000000) (q:FoP w g b vv b2 D L):
 Calls prog 38 #[.pointer (some ⟨g,0,none⟩),.agg #[.int .i64 K,.int .u64 X,.string T,.bool I,.int .i64 F,.int .i64 a1,.int .i64 a2,.bool a3,.bool a4,.int .i64 c1,.int .i64 c2,.bool c3,.bool c4,.slice a m c]] w
  (RetR b2 (.string ⟨(T.data.toList++40::(Fx.mt L (ks.map (Fx.text D L))++[41])).toArray⟩) w):=by
 subst x;obtain⟨YZ,CG⟩: ∃ R:ByteArray,R=⟨(T.data.toList++40::(Fx.mt L (ks.map (Fx.text D L))++[41])).toArray⟩:=⟨_,rfl⟩;rw[<-CG];have Jq:=aL CG;clear CG;have Ez:=q.fw.fo.gl;have bQ:=q.fw.wr.rd.lt;obtain⟨W,hW⟩:=bx (w.alloc (.cells #[.int .i64 10,.int .u64 X,.string T,.bool I,.int .i64 F,.int .i64 a1,.int .i64 a2,.bool a3,.bool a4,.int .i64 c1,.int .i64 c2,.bool c3,.bool c4,.slice a m c] 27));have n:Below w.heap.size w W:=by rw[hW];exact ek
 have x2:W.cell? ⟨w.heap.size,2,none⟩=some (.string T):=qd;have x3:W.cell? ⟨g,3,none⟩=some (.string ⟨#[L]⟩):=(q.on n).fw.fo.lst;have hl:w.heap.size<W.heap.size:=by rw[hW];simp
 have kp:w.heap.size≠b2:=aG;have He:=q.fw.ng;have B3:g<W.heap.size:=aG;have Cj:b2<W.heap.size:=aG;have Sf:hi<=W.heap.size:=aG;have fW:=q.on n
 have lC:0<m-> ∃ d o,a=some ⟨d,o,none⟩/\lo<=d/\d<hi/\ ∀ k (x:k<ks.length),∃ l,TreeAt W lo hi ks[k] l/\NodeAt W d (o+k*14) ks[k] l:=fun h0=>by obtain⟨d,o,e1,e2,e3,E⟩:=r h0;refine⟨d,o,e1,e2,e3,fun k x=>?_⟩;obtain⟨l,u,z⟩:=E.get k x;exact⟨l,u.below n hh,z.kept (n.block d aG)⟩
 obtain⟨i0,hI⟩:=KI ywn;obtain⟨Nw,WW,WV,ut⟩:=hI;obtain⟨cW,HT,Uw,N,HM,HB⟩:=ts lC hT fW aH hm n;clear r lC hT fW aH q hm;go_enter func38,ntmps38
 go_wp2_with fail
 rw[<-hW];clear hW n;go_loopw [6,106] (fun s i wr=> ∃ k:Nat,k<=m/\i= .int .i64 (k:Int)/\Hid (RowG wr W.heap.size 9 1 s k (strs D L (ks.take k)))/\Hid (Onl b2 W wr)/\Hid (Rdr wr b2)) (fun _ i _=>m-(intOf i).toNat)
 case atStart=>exact⟨0,iH _,rfl,aL (RowG.nil _ _ _ _),aL (Onl.refl _ _),aL Uw.out.fw.wr.rd⟩
 case round=>
  obtain⟨k,x,rfl,f,t,HR⟩:=hrel;have nT:=t.out.size;obtain⟨⟨av,cv,rfl⟩,_⟩:=id f.out;by_cases aW:k<m
  ·have U:k<ks.length:=Cf;obtain⟨d,o,rfl,e2,e3,E⟩:=cW.out aG;obtain⟨l,u,z⟩:=E k U;obtain⟨ak,Y,rfl, -, -⟩:=u.form;obtain⟨V,hV⟩:=bx (trv ks[k] (.slice ak ks[k].kids.length Y));have B:IsN V (trc ks[k] (.slice ak ks[k].kids.length Y)):=by rw[hV];exact IsN.of _ _ _ _
   obtain⟨cs,bN⟩:=bx (trc ks[k] (.slice ak ks[k].kids.length Y));rw[<-bN] at B;have qg:=z.kept (t.out.block d aG aG);have lF:(ox (.pointer (some ⟨d,o+k*14,none⟩))).run prog (wr)= .ok V wr:=by rw[hV];exact CE qg
   have O:=Nd.zero wr;have dg:=jP O B;obtain⟨Z,hZ⟩:=bx (nput (wr.alloc jg) wr.heap.size V);have CL:=O.put B;have y:Below wr.heap.size wr Z:=yb5;have KG:Z.heap.size=wr.heap.size+1:=by rw[hZ,yI];simp
   rw[<-hZ] at dg CL;have WJ:=fx CL;unfold jg at dg;have v:Onl b2 W Z:=t.out.more Cj y;have IA:Rdr Z b2:=HR.out.on y;obtain⟨S,P⟩:=bx (⟨(Fx.text D L ks[k]).toArray⟩:ByteArray)
   have bi:Calls prog 38 #[.pointer (some ⟨g,0,none⟩),V] Z (RetR b2 (.string S) Z):=by rw[hV,P];exact HT.out k U _ Z (Uw.out.onl v IA) (u.onl v hd Sf) (dE Sf v.size)
   have ML:=yp4 D L U;rw[<-P] at ML;have i1:(k:Int)<(m:Int):=aG;have i2:(k:Int)<=30:=aG;obtain⟨HC,wE,DP,wQ⟩:=jv bi ML v y;obtain⟨xs,Ro⟩:=bx (strs D L (ks.take k));rw[<-Ro] at f wE;clear bi ML P Ro hV B bN qg O CL hZ v IA y u z E;go_wp2_with (first|(go_at_call 38;refine cV HC.out ?_;rintro e w4 ⟨rfl,G,GX⟩;have jw:=aL (DP.out.trans G);have uj:=G.size;have mD:=aL ((f.out.on wQ.out).kept (fun k e=>G.block k (by have:=f.out.lt e;omega) (by have:=f.out.lt e;omega)));have xX:=aL GX;clear G GX)|(at_builtin;refine wpList_append_lies _ rfl _ _ 54 rfl W.heap.size 9 i0 (.string ⟨#[]⟩) 1 16 underlying54 Nw WW WV ut rfl bL _ _ _ rfl (mD.out.2.alloc _) ⟨w4.heap.size,0,none⟩ 1 1 [.string S] rfl rfl (yjN w4 [.string S] _) (by simp[Value.oneCell']) bL IX aG pp (w4.heap.size+1) cn ?_;intro g' dG w5 G5 bB iB WD))
   go_roundw
   case rel=>refine⟨k+1,by omega,by go_num,aL (RowG.of G5 rfl (by rw[wE.out])),aL ((jw.out.more Cj (ek)).grown bB (fun j e=>(f.out.lt e).1) Cj),aL ?_⟩;exact(xX.out.on (ek)).off2 bB (fun e=>by have:=(f.out.lt e).1;omega)
   case measure=>simp[intOf];omega
  ·have Ew:k=m:=aG;subst Ew;have r:=f.out;rw[HM.out,zD,<-HM.out] at r;have hj: ∀ H,Below wr.heap.size wr H->Calls prog 51 #[.slice av k cv,.string ⟨#[L]⟩] H (RetB (.string ⟨(Fx.mt L (ks.map (Fx.text D L))).toArray⟩) H):=fun H Xw=>ysw D L (r.on Xw) HM.out ro N.out;obtain⟨J,C⟩:=bx (⟨(Fx.mt L (ks.map (Fx.text D L))).toArray⟩:ByteArray);have XQ:J.size<=100000000:=by rw[C,nm];exact N.out
   have Tl:Fx.mt L (ks.map (Fx.text D L))=J.data.toList:=by rw[C]
   rw[<-C] at hj;obtain⟨A,Q⟩:=bx (T++⟨#[40]⟩++J++⟨#[41]⟩:ByteArray);have ff:(⟨(T.data.toList++40::(J.data.toList++[41])).toArray⟩:ByteArray)=A:=by rw[Q];refine Dc.qR _ _ ?_;simp
   have S':YZ=A:=by rw[Jq.out,Tl,ff]
   have Zv:=aL (S'.trans Q);have s1: ¬ 9223372036854775807<T.size+1:=aG;have s2: ¬ 9223372036854775807<T.size+1+J.size:=aG;have s3: ¬ 9223372036854775807<T.size+1+J.size+1:=aG;have y2:=(t.out.cell (o:=2) kp hl).trans x2;have y3:=(t.out.cell (o:=3) He B3).trans x3;have HJ:=aL hj;clear hj C Tl Q ff r cW HT N S' Jq;go_upto_region 29 with (fail)
   go_region_held3 (fun w'=>w'.cell? ⟨w.heap.size,2,none⟩=some (.string T)/\w'.cell? ⟨g,3,none⟩=some (.string ⟨#[L]⟩))
    (first|go_keep|exact⟨z2,z3⟩)
    (first|(go_at_call 51;(with_reducible refine(HJ.out _ dt).mono ?_);rintro e w7 ⟨rfl,nV⟩;have M:Below wr.heap.size wr w7:=(by first|exact nV|exact(eN.drew).trans nV);have z2:=(M.cell (p:=⟨w.heap.size,2,none⟩) (eR hl nT)).trans y2;have z3:=(M.cell (p:=⟨g,3,none⟩) (eR B3 nT)).trans y3))
   all_goals(go_wp2_with fail;go_ret)
   all_goals(exact⟨by rw[Zv.out];rfl,((Onl.of bQ HB.out).trans t.out).more bQ M,HR.out.on M⟩)
end

section
open Fx (Tr)
def yoc {d:Type} {l:List d} (h:l.length=2): ∃ a b,l=[a,b]:=by
 rcases l with _|⟨a,_|⟨b,_|⟨c,l⟩⟩⟩
 ·simp at h
 ·simp at h
 ·exact⟨a,b,rfl⟩
 ·simp at h
def yrm: ∀ (n:Nat) (t:Tr) (v:Value) (g b vv b2 lo hi:Nat) (D L:UInt8),Fx.num t<=n->Fx.num t<=500->Fx.hG t=true->(b2<lo∨hi<=b2)->yaF t v ⟨(Fx.text D L t).toArray⟩ g b vv b2 lo hi D L:=by
 intro n
 induction n with
 |zero=>intro t v g b vv b2 lo hi D L hn;have:=Tr.yo t;omega
 |succ n ih=>
  intro t v g b vv b2 lo hi D L hn h5 W hd w y ht R
  obtain⟨K,X,f,I,F,x,u,s,a4,c1,c2,c3,c4,a,m,c,rfl,aK,S,hm,N,kD,M⟩:=ht.flat
  rw[aK]
  obtain⟨ks,Q⟩:=bx (t.kids)
  rw[<-Q] at S hm M
  rw[vd,<-Q] at hn h5
  have l:=Fx.yd5 D L t W
  rw[S,Fx.hG,fs] at W
  obtain⟨d,dS⟩:=W
  have T:Fx.text D L t=Fx.asm D L (.mk K X f.data.toList I F ⟨x,u,s,a4⟩ ⟨c1,c2,c3,c4⟩ ks) (ks.map (Fx.text D L)):=by rw[S,Fx.text,Fx.yhn]
  rw[vd,<-Q] at l
  have B: ∀ (k:Nat) (j:k<ks.length),Fx.num ks[k]<=n/\Fx.num ks[k]<=500/\Fx.hG ks[k]=true:=fun k j=>by have:=yy j;exact⟨by omega,by omega,Fx.ymb (pK j) dS⟩
  have hT: ∀ k (h:k<ks.length) i,yaF ks[k] i ⟨(Fx.text D L ks[k]).toArray⟩ g b vv b2 lo hi D L:=fun k j i=>ih ks[k] i g b vv b2 lo hi D L (B k j).1 (B k j).2.1 (B k j).2.2 hd
  have mG: ∀ k (h:k<ks.length),(Fx.text D L ks[k]).length <=2100000:=fun k j=>by have:=Fx.yd5 D L ks[k] (B k j).2.2;have:=(B k j).2.1;omega
  have O: ∀ k (h:k<ks.length) i q,q<=8->KidC ks[k] i q ⟨(Fx.par q ks[k] (Fx.text D L ks[k])).toArray⟩ g b vv b2 lo hi D L:=fun k j i q hq=>
   yna ks[k] i q ⟨(Fx.text D L ks[k]).toArray⟩ g b vv b2 lo hi D L hq (by rw[nm];have:=mG k j;omega) (hT k j i)
  have P: ∀ k (h:k<ks.length) q,(⟨(Fx.par q ks[k] (Fx.text D L ks[k])).toArray⟩:ByteArray).size <=100000000:=fun k j q=>by rw[nm];have:=Fx.yan q ks[k] (Fx.text D L ks[k]);have:=mG k j;omega
  rw[Fx.sB] at d
  rw[Fx.ylI] at T
  rw[T] at l ⊢
  clear aK T B ih ht dS hn S Q
  by_cases k1:K=1
  ·subst k1
   simp at d
   rw[bT rfl]
   exact ynR X f I F x u s a4 c1 c2 c3 c4 a m c g b vv b2 D L w aG y
  rw[bv k1] at d l ⊢
  by_cases k2:K=2
  ·subst k2
   rw[bT rfl] at d ⊢
   simp at d
   exact ym9 X f I F x u s a4 c1 c2 c3 c4 a m c g b vv b2 D L w d.2.2.2.2.2.1 y
  rw[bv k2] at d l ⊢
  by_cases k3:K=3
  ·subst k3
   rw[bT rfl]
   exact ypO X f I F x u s a4 c1 c2 c3 c4 a m c g b vv b2 D L w y
  rw[bv k3] at d l ⊢
  by_cases k4:K=4
  ·subst k4
   rw[bT rfl]
   exact yoo X f I F x u s a4 c1 c2 c3 c4 a m c g b vv b2 D L w y
  rw[bv k4] at d l ⊢
  by_cases k5:K=5
  ·subst k5
   rw[bT rfl]
   exact yum X f I F x u s a4 c1 c2 c3 c4 a m c g b vv b2 D L w y
  rw[bv k5] at d l ⊢
  by_cases k6:K=6
  ·subst k6
   rw[bT rfl]
   exact yoQ X f I F x u s a4 c1 c2 c3 c4 a m c g b vv b2 D L w y
  rw[bv k6] at d l ⊢
  by_cases k7:K=7
  ·subst k7
   rw[bT rfl] at d ⊢
   simp at d
   obtain⟨k,rfl⟩: ∃ k,ks=[k]:=yg2.1 d.2.2.2.2.2.2
   obtain rfl:m=1:=hm
   obtain⟨J,o,rfl,H,G,A⟩:=M aG
   obtain⟨i,E,C⟩:=A.get 0 cn
   have z:f.size<=100:=by rw[<-dN];rcases d.2.2.2.2.2.1 with e|e<;>rw[e]<;>simp
   have r:=yrv X f I F x u s a4 c1 c2 c3 c4 J o c k i _ g b vv b2 lo hi D L w (O 0 cn i 6 aG) E (by simpa using C) H G R hd N z (P 0 cn 6) y
   have e:(f++⟨(Fx.par 6 k (Fx.text D L k)).toArray⟩:ByteArray)=⟨(f.data.toList++Fx.par 6 k (Fx.text D L k)).toArray⟩:=Dc.qR _ _ cn
   rw[show([k]:List Tr)[0]=k from rfl,e] at r
   exact r
  rw[bv k7] at d l ⊢
  by_cases U:K=9
  ·subst U
   rw[bv bL,bT rfl] at d
   rw[bT rfl]
   simp at d
   obtain⟨k,rfl⟩: ∃ k,ks=[k]:=yg2.1 d.2.2.2.2.2.2
   obtain rfl:m=1:=hm
   obtain⟨J,o,rfl,H,G,A⟩:=M aG
   obtain⟨i,E,C⟩:=A.get 0 cn
   have z:f.size<=100:=by rw[<-dN];have e:=d.2.2.2.2.2.1;rw[e];simp
   have r:=ypN X f I F x u s a4 c1 c2 c3 c4 J o c k i _ g b vv b2 lo hi D L w (O 0 cn i 7 aG) E (by simpa using C) H G R hd N z (P 0 cn 7) y
   have e:(⟨(Fx.par 7 k (Fx.text D L k)).toArray⟩++f:ByteArray)=⟨(Fx.par 7 k (Fx.text D L k)++f.data.toList).toArray⟩:=Dc.qR _ _ cn
   rw[show([k]:List Tr)[0]=k from rfl,e] at r
   exact r
  rw[bv U] at l ⊢
  by_cases V:K=8
  ·subst V
   rw[bT rfl] at d ⊢
   simp at d
   obtain⟨k,q,rfl⟩: ∃ k q,ks=[k,q]:=yoc d.2.2.2.2.2.2
   obtain rfl:m=2:=hm
   obtain⟨J,o,rfl,H,G,A⟩:=M aG
   obtain⟨i,E,C⟩:=A.get 0 cn
   obtain⟨Z,t3,t4⟩:=A.get 1 cn
   have kE:=Fx.yfM f.data.toList
   have z:f.size<=100:=by rw[<-dN];have:=Fx.yld f.data.toList (by simpa using d.2.2.2.2.2.1);omega
   have r:=ypk X f I F x u s a4 c1 c2 c3 c4 J o c k q i Z _ _ g b vv b2 lo hi D L w (O 0 cn i (Fx.eT f.data.toList) aG) (O 1 cn Z (Fx.eT f.data.toList+1) aG) E t3 (by simpa using C) (by simpa using t4) H G R hd N z (P 0 cn _) (P 1 cn _) y
   have e:(⟨(Fx.par (Fx.eT f.data.toList) k (Fx.text D L k)).toArray⟩++f++⟨(Fx.par (Fx.eT f.data.toList+1) q (Fx.text D L q)).toArray⟩:ByteArray)=⟨(Fx.par (Fx.eT f.data.toList) k (Fx.text D L k)++(f.data.toList++Fx.par (Fx.eT f.data.toList+1) q (Fx.text D L q))).toArray⟩:=Dc.qR _ _ cn
   rw[show([k,q]:List Tr)[0]=k from rfl,show([k,q]:List Tr)[1]=q from rfl,e] at r
   exact r
  rw[bv V,bv U] at d
  rw[bv V] at l ⊢
  by_cases Y:K=10
  ·rw[bT Y] at d
   simp only[fs,kF] at d
   have hj:(Fx.mt L (ks.map (Fx.text D L))).length <=100000000:=by simp only[j2,gE] at l;omega
   have z:f.size<=100:=by rw[<-dN];have:=Fx.yiM f.data.toList d.2.2.2.2.2.1;omega
   exact yuH K X f I F x u s a4 c1 c2 c3 c4 a m c ks g b vv b2 lo hi D L w Y hm aG N M hT R hd z hj y
  ·rw[bv Y] at d;simp at d
def yk8 (t:Tr) (v:Value) (g b vv b2 lo hi:Nat) (D L:UInt8) (w:World) (l:FoP w g b vv b2 D L) (k:TreeAt w lo hi t v) (q:hi<=w.heap.size) (hd:b2<lo∨hi<=b2) (hm:Fx.tmax t<=9223372036854775807):
 Calls prog 19 #[.pointer (some ⟨g,0,none⟩),trv t v] w (RetR b2 (.string ⟨(Fx.print D L t).toArray⟩) w):=by
 have d: ∀ W,Below w.heap.size w W->Calls prog 12 #[trv t v] W (RetB (.bool (Fx.right t)) W):=fun W i=>Y5 t v lo hi W (k.below i q) (dE q i.size) hm
 have j:Fx.right t=true-> ∀ W,Below w.heap.size w W->Calls prog 38 #[.pointer (some ⟨g,0,none⟩),trv t v] W (RetR b2 (.string ⟨(Fx.text D L t).toArray⟩) W):=fun f W i=>by have h:=f;unfold Fx.right at h;simp only[fs,kF] at h;exact yrm _ t v g b vv b2 lo hi D L cm h.1 h.2.2 hd W (l.on i) (k.below i q) (dE q i.size)
 have B:=l.fw.wr.rd.lt;have Q:=aL l;unfold Fx.print;obtain⟨K,X,Y,I,F,V,U,T,a4,c1,c2,c3,c4,a,m,c,rfl,u, -, -, -, -, -⟩:=k.flat;rw[u] at d j ⊢;obtain⟨S,o⟩:=bx (⟨(Fx.text D L t).toArray⟩:ByteArray);rw[<-o] at j
 cases f:Fx.right t with
 |true=>
  rw[f] at d
  rw[bT rfl,<-o]
  have P:=aL (j f);have x:=aL d
  clear j d u f k l o
  go_enter func19,ntmps19
  go_wp2_with (first|(go_at_call 12;(with_reducible refine(x.out _ dt).mono ?_);rintro e y ⟨rfl,n⟩;obtain⟨r,E,C,s⟩:=g9 (w) n;(try simp only[fO,gz,fY,gt] at s);obtain⟨N,H,J,M,O,G⟩:=own6 n (w.heap.size))|(go_at_call 38;(with_reducible refine(P.out _ dt).mono ?_);rintro e R ⟨rfl,z,A⟩))
  go_ret
  exact⟨rfl,(Onl.of B r).trans z,A⟩
 |false=>
  rw[f] at d
  rw[bv cn]
  have x:=aL d
  clear j d u f k l o
  go_enter func19,ntmps19
  go_wp2_with (first|(go_at_call 12;(with_reducible refine(x.out _ dt).mono ?_);rintro e y ⟨rfl,n⟩;obtain⟨r,E,C,s⟩:=g9 (w) n;(try simp only[fO,gz,fY,gt] at s);obtain⟨N,H,J,M,O,G⟩:=own6 n (w.heap.size)))
  go_ret
  exact Q.out.ret r _
end

section
open Fx (Tr)
structure Bs (w:World):Prop where
 tab:Tab w
 ev:EvR w
 ml:2<w.heap.size
 mx: ∃ m,w.cell? ⟨2,0,none⟩=some (.int .i64 m)
def Bs.on {w w':World} (h:Bs w) (hb:Below w.heap.size w w'):Bs w':=by obtain⟨m,hm⟩:=h.mx;exact⟨h.tab.below hb,h.ev.of hb.size (hb.block _ h.ev.lt),eR h.ml hb.size,m,(hb.cell (p:=⟨2,0,none⟩) h.ml).trans hm⟩
structure St (W0 w:World) (g b v b2:Nat) (D L:UInt8):Prop where
 fw:FoW w g b v b2 D L
 bl:Below W0.heap.size W0 w
 hg:W0.heap.size<=g
 hb:W0.heap.size<=b
 hv:W0.heap.size<=v
 hb2:W0.heap.size<=b2
def St.fop {W0 w:World} {g b v b2:Nat} {D L:UInt8} (h:St W0 w g b v b2 D L) (a:Bs W0):FoP w g b v b2 D L:=by obtain⟨m,hm⟩:=a.mx;exact⟨h.fw,⟨W0,a.tab,h.hb2,h.bl⟩,⟨m,(h.bl.cell (p:=⟨2,0,none⟩) a.ml).trans hm⟩,eR a.ml h.hb2,eR a.ev.lt h.hb2⟩
def FoW.on {w w':World} {g b v b2:Nat} {D L:UInt8} (h:FoW w g b v b2 D L) (hb:Below w.heap.size w w'):FoW w' g b v b2 D L:=
 ⟨h.fo.on hb,(hb.cell (p:=⟨g,11,none⟩) h.fo.gl).trans h.wrc,h.wr.on hb,h.nb,h.nv,h.ng⟩
def St.on {W0 w w':World} {g b v b2:Nat} {D L:UInt8} (h:St W0 w g b v b2 D L) (hb:Below w.heap.size w w'):St W0 w' g b v b2 D L:=
 ⟨h.fw.on hb,h.bl.trans (hb.mono h.bl.size),h.hg,h.hb,h.hv,h.hb2⟩
def FoW.turn {w w':World} {g b v b2 q:Nat} {D L:UInt8} (h:FoW w g b v b2 D L) (a:Onl q w w') (hg:g≠q) (hv:v≠q) (d:6≠q) (c:Rdr w' b) (e:Rdr w' b2):FoW w' g b v b2 D L:=by have f:=h.fo;exact⟨⟨(a.cell hg f.gl).trans f.dec,(a.cell hg f.gl).trans f.lst,(a.cell hg f.gl).trans f.rdc,c,eR f.gl a.size,f.ne,f.ev.of a.size (a.block 6 d f.ev.lt),f.evb⟩,(a.cell hg f.gl).trans h.wrc,⟨(a.cell hv h.wr.lt).trans h.wr.cell,eR h.wr.lt a.size,h.wr.ne,e⟩,h.nb,h.nv,h.ng⟩
def St.turn {W0 w w':World} {g b v b2 q:Nat} {D L:UInt8} (h:St W0 w g b v b2 D L) (c:Bs W0) (hq:W0.heap.size<=q) (a:Onl q w w') (hg:g≠q) (hv:v≠q) (d:Rdr w' b) (e:Rdr w' b2):St W0 w' g b v b2 D L:=
 ⟨h.fw.turn a hg hv (by have:=c.ev.lt;omega) d e,h.bl.trans (a.below.mono hq),h.hg,h.hb,h.hv,h.hb2⟩
def St.parse {W0 w w':World} {g b v b2:Nat} {D L:UInt8} (h:St W0 w g b v b2 D L) (c:Bs W0) (a:Onl b w w') (d:Rdr w' b):St W0 w' g b v b2 D L:=
 h.turn c h.hb a h.fw.fo.ne h.fw.nv d (h.fw.wr.rd.off a (fun e=>h.fw.nb e.symm))
def St.print {W0 w w':World} {g b v b2:Nat} {D L:UInt8} (h:St W0 w g b v b2 D L) (c:Bs W0) (a:Onl b2 w w') (d:Rdr w' b2):St W0 w' g b v b2 D L:=
 h.turn c h.hb2 a h.fw.ng h.fw.wr.ne (h.fw.fo.rd.off a h.fw.nb) d
def St.other {W0 w w':World} {g b v b2 q:Nat} {D L:UInt8} (h:St W0 w g b v b2 D L) (c:Bs W0) (hq:W0.heap.size<=q) (a:Onl q w w') (hg:g≠q) (hv:v≠q) (hb:b≠q) (hb2:b2≠q):St W0 w' g b v b2 D L:=
 h.turn c hq a hg hv (h.fw.fo.rd.off a hb) (h.fw.wr.rd.off a hb2)
def St.new {W0 w w':World} {g b v b2:Nat} {D L:UInt8} (h:FoW w' g b v b2 D L) (a:Below W0.heap.size W0 w) (hb:Below w.heap.size w w') (f:w.heap.size<=g) (e:w.heap.size<=b) (d:w.heap.size<=v) (c:w.heap.size<=b2):St W0 w' g b v b2 D L:=
 ⟨h,a.trans (hb.mono a.size),dE a.size f,dE a.size e,dE a.size d,dE a.size c⟩
end

section
open Go.ChangeShapes Go.WideShapes Go.ChangeAt Go.RowKit
def yks {H:Type} {j:TypeId × Value->H} {P:Program} {w:World} {base:Nat} {sp:Nat->Bool} {g:Bool} {fuel:Nat} {t e:TypeId} {n:Nat} {cs:List Value} {l:List (List UInt8)} {p:List MemPlace}
 (o:P.underlying t=some (.array n e)) (r:P.underlying e=some .string) (u:P.cellsOf e=1)
 (h:DataW.trod j P w base sp g fuel t cs=some (.agg (l.map fun s=> .lit (.string s)),p)) (i:Nat) (hi:i<l.length):cs[i]? =some (.string ⟨(l[i]).toArray⟩):=by
 obtain⟨xs,m,_,hx,_,v,k⟩:=DataW.trod_array o h
 have d:xs.map (·.1)=l.map fun s=>(DataW.lit (.string s):DataW H):=by have:=dZ Prod.fst hx;simpa using this.symm
 have hl:xs.length=l.length:=by have:=dZ List.length d;simpa using this
 have c:=k i aG;obtain⟨x,f⟩: ∃ x,xs[i]? =some x:=⟨xs[i],n9 aG⟩;rw[f,u,oU] at c;obtain⟨s,q,hv,_⟩:=DataW.trod_string r c;have a:=dZ (·[i]?) d;simp only[TU,f,yd,n9 hi,vO] at a;rw[hv] at a;simp only[DataW.lit.injEq,Lit.string.injEq] at a;have b:=dZ (·[0]?) q;simp only[yev,yac,ms] at b;rw[bT bL] at b;rw[b,<-a];simp
def yvS {H:Type} {o:TypeId × Value->H} {P:Program} {w:World} {base:Nat} {sp:Nat->Bool} {k:Bool} {fuel:Nat} {t e s:TypeId} {n m:Nat} {cs:List Value} {ll:List (List (List UInt8))} {p:List MemPlace}
 (r:P.underlying t=some (.array n e)) (v:P.underlying e=some (.array m s)) (u:P.underlying s=some .string) (z:P.cellsOf s=1) (y:P.cellsOf e=m)
 (h:DataW.trod o P w base sp k fuel t cs=some (.agg (ll.map fun l=> .agg (l.map fun s=> .lit (.string s))),p)) (i j:Nat) (hi:i<ll.length) (hj:j<(ll[i]).length) (A:j<m):cs[i*m+j]? =some (.string ⟨((ll[i])[j]).toArray⟩):=by
 obtain⟨xs,f,_,hx,_,D,q⟩:=DataW.trod_array r h
 have d:xs.map (·.1)=ll.map fun l=>(DataW.agg (l.map fun s=> .lit (.string s)):DataW H):=by have:=dZ Prod.fst hx;simpa using this.symm
 have hl:xs.length=ll.length:=by have:=dZ List.length d;simpa using this
 have c:=q i aG;obtain⟨x,g⟩: ∃ x,xs[i]? =some x:=⟨xs[i],n9 aG⟩;have a:=dZ (·[i]?) d;simp only[TU,g,yd,n9 hi,vO] at a;rw[g,y] at c;obtain⟨C,B⟩:=x;simp only at a;subst a;have b:=yks v u z c j hj;rw[yev,bT A,yac] at b;exact b
def ylJ:prog.globalNamed "tabard/locale.names" =some 0:=cI
def yhS:prog.globalNamed "tabard/locale.signs" =some 1:=cI
def yc3 {W:World} (h:laidMetH prog [("tabard/locale.names",Rows.laid_tabard_locale_names),("tabard/locale.signs",Rows.laid_tabard_locale_signs)] W):Vars W:=by
 obtain⟨C,⟨G,z,c1,I,E,B,r,k,m,g,⟨F,y,c2,H,D,A,q,o,w,u,_,_⟩,_⟩,_⟩:=h;obtain rfl:=tJ ((show(prog.globals[0]?).map (·.type)=some 79 by kernel_rfl).symm.trans (by rw[<-k,<-Option.some.inj (ylJ.symm.trans r)]));obtain rfl:=tJ ((show(prog.globals[1]?).map (·.type)=some 81 by kernel_rfl).symm.trans (by rw[<-o,<-Option.some.inj (yhS.symm.trans q)]));have n:=fun i=>yeU ylJ m i;have s:=fun i=>yeU yhS w i;have d:=fun i hi=>yks (l:=Lc.six.map (·.name)) underlying79 underlying9 (show prog.cellsOf 9=1 by kernel_rfl) g i hi
 have c:=fun i j hi hj a=>yvS (ll:=Lc.six.map fun l=>[l.dec,l.grp,l.list,l.minus,l.cur])
  underlying81 underlying80 underlying9 (show prog.cellsOf 9=1 by kernel_rfl) (show prog.cellsOf 80=5 by kernel_rfl) u i j hi hj a
 simp only[yhI] at d c;have N:=fun i hi=>(n i).trans (d i hi);have S:=fun i j hi hj a=>(s (i*5+j)).trans (c i j hi hj a);refine⟨Vu (N 0 bL),Vu (S 0 0 bL bL bL),fun i l hl=>?_⟩;obtain⟨hi,e⟩:=o6.1 hl;have f:i<(Lc.six.map (·.name)).length :=by rw[G0];exact hi
 have b:i<(Lc.six.map fun l=>[l.dec,l.grp,l.list,l.minus,l.cur]).length :=by rw[G0];exact hi
 refine⟨(N i f).trans (by rw[List.getElem_map,e];rfl),fun j t v=>?_⟩;obtain⟨hj,x⟩:=o6.1 v;have hm:=List.getElem_map (fun l:Lc.Loc=>[l.dec,l.grp,l.list,l.minus,l.cur]) (h:=b);rw[e] at hm;refine(S i j b (by rw[hm];exact hj) hj).trans ?_;simp only[hm,x]<;>rfl
def gTab:prog.globalNamed "internal/strconv.uint64pow10" =some 7:=cI
def yvv {W:World} (c:laidMetH prog [("internal/strconv.uint64pow10",Rows.laid_internal_strconv_uint64pow10)] W):Tab W:=by
 have b:Lib.TabIs prog W "internal/strconv.uint64pow10" .u64 [1,10,100,1000,10000,100000,1000000,10000000,100000000,1000000000,10000000000,100000000000,1000000000000,10000000000000,100000000000000,1000000000000000,10000000000000000,100000000000000000,1000000000000000000,10000000000000000000]:=
  Lib.tabIs_of_head (rest:=[]) gTab (show(prog.globals[7]?).map (·.type)=some 262 by kernel_rfl) underlying262 underlying22 (show prog.cellsOf 22=1 by kernel_rfl) (show prog.cellsOf 262=20 by kernel_rfl) c
 have a:Lib.TabIs prog W "internal/strconv.uint64pow10" .u64 Lib.pow10Tab:=by rw[show Lib.pow10Tab=[1,10,100,1000,10000,100000,1000000,10000000,100000000,1000000000,10000000000,100000000000,1000000000000,10000000000000,100000000000000,1000000000000000,10000000000000000,100000000000000000,1000000000000000000,10000000000000000000] from by kernel_rfl];exact b
 exact Lib.tabBelow_of_tabIs a
def gErr:prog.globalNamed "strconv.ErrRange" =some 6:=cI
def yrH {W:World} (h:Lib.VarReads prog W "strconv.ErrRange" Rows.laid_strconv_ErrRange):EvR W:=by
 obtain⟨g,t,cs,fuel,p,hg,b,hv,hd⟩:=h;obtain rfl:=tJ (hg.symm.trans gErr);obtain rfl:=tJ ((show(prog.globals[6]?).map (·.type)=some 132 by kernel_rfl).symm.trans b);unfold Rows.laid_strconv_ErrRange at hd;obtain⟨_,u,v,d,_,_⟩:=iface_of_trod underlying132 hd;have a:=yeU gErr hv 0
 have c:cs[0]? =some (.iface u v):=by have:=dZ (·[0]?) d;simpa using this
 rw[c] at a;exact⟨_,a,.inr ⟨u,v,rfl⟩,Vu a⟩
def yjY {W:World} (h:W.ShapedOpen prog):2<W.heap.size/\ ∃ m:Int,W.cell? ⟨2,0,none⟩=some (.int .i64 m):=by obtain⟨m,hm⟩:=cell_of_shapedOpen_int (P:=prog) (g:=2) (t:=3) (zero:= #[.int .i64 0]) h (vx cI) cI rfl cI cI underlying3;exact⟨Vu hm,m,hm⟩
def ycI {W:World} (c:laidMetH prog [("internal/strconv.uint64pow10",Rows.laid_internal_strconv_uint64pow10)] W) (b:Lib.VarReads prog W "strconv.ErrRange" Rows.laid_strconv_ErrRange) (a:W.ShapedOpen prog):Bs W:=
 ⟨yvv c,yrH b,(yjY a).1,(yjY a).2⟩
end

section
open Fx (Tr)
attribute [local go_sem ↓] qh qn
attribute [local go_sem high] W2 Xn Wc
def ygj: ∀ (n:Nat) (t:Tr) (v s:Value) (lo hi u g:Nat) (w:World),Fx.num t<=n->TreeAt w lo hi t v->TreeAt w u g t s->hi<=w.heap.size->g<=w.heap.size->
 Calls prog 22 #[trv t v,trv t s] w (RetB (.bool true) w):=by
 intro n
 induction n with
 |zero=>intro t v s lo hi u g w hn;have:=Tr.yo t;omega
 |succ n ih=>
  intro t v s lo hi u g w hn ht oi cF Hx
  obtain⟨M,l,rfl,Z,M',D⟩:=TreeAt.eq.1 oi
  obtain⟨K,X,TT,I,F,a1,a2,a3,a4,b1,b2,b3,b4,a,m,c,rfl,aK,T,x,hc,kD,L⟩:=ht.flat
  have m9:trv t (.slice M t.kids.length l)= .agg #[.int .i64 K,.int .u64 (X:Nat),.string TT,.bool I,.int .i64 F,.int .i64 a1,.int .i64 a2,.bool a3,.bool a4,.int .i64 b1,.int .i64 b2,.bool b3,.bool b4,.slice M m l]:=by rw[<-x,T];rfl
  rw[aK,m9]
  obtain⟨ks,J⟩:=bx (t.kids)
  rw[vd,<-J] at hn
  rw[<-J] at x L D Z
  have cE: ∀ (k:Nat) (G:k<ks.length),Fx.num ks[k]<=n:=fun k G=>by have:=yy G;omega
  have rA:=ym a1 a2 a3 a4
  have rB:=ym b1 b2 b3 b4
  have hmc:m<=l:=aG
  obtain⟨HK,HM,cW,Jp,IH⟩:=qF cE x L D ih
  clear cE x L D ih aK m9 J ht oi hn T M' Z
  go_enter func22,ntmps22
  go_wp2_with fail
  go_loopw [5] (fun i wr=> ∃ k:Nat,k<=m/\i= .int .i64 k/\wr.cell? ⟨w.heap.size,13,none⟩=some (.slice a m c)/\wr.cell? ⟨w.heap.size+1,13,none⟩=some (.slice M m l)/\w.heap.size+1<wr.heap.size/\Hid (Below w.heap.size w wr)) (fun i _=>m-(intOf i).toNat)
  case atStart=>exact⟨0,iH _,rfl,by simp[go_sem],by simp[go_sem],by simp,aL dt⟩
  case round=>
   obtain⟨k,G,rfl,O,N,dP,b⟩:=hrel
   have nT:=b.out.size
   by_cases aW:k<m
   ·have H:k<ks.length:=Cf
    obtain⟨z,o,rfl,aw,hb2,ei⟩:=cW.out aG
    obtain⟨y,o',rfl,Xp,Xo,Ii⟩:=Jp.out aG
    obtain⟨r,S,R⟩:=ei.get k H
    obtain⟨q,Q,t4⟩:=Ii.get k H
    have j: ∀ W,Below w.heap.size w W->(ox (.pointer (some ⟨z,o+k*14,none⟩))).run prog W= .ok (trv ks[k] r) W:=fun W d=>CE (R.kept (d.block z aG))
    have f: ∀ W,Below w.heap.size w W->(ox (.pointer (some ⟨y,o'+k*14,none⟩))).run prog W= .ok (trv ks[k] q) W:=fun W d=>CE (t4.kept (d.block y aG))
    have A: ∀ (W:World),Below w.heap.size w W->Calls prog 22 #[trv ks[k] r,trv ks[k] q] W (RetB (.bool true) W):=fun W d=>IH.out ks[k] r q lo hi u g W (HK.out k H) (S.below d cF) (Q.below d Hx) (dE cF d.size) (dE Hx d.size)
    obtain⟨V1,P⟩: ∃ V,V=trv ks[k] r:=⟨_,rfl⟩
    obtain⟨V2,cz⟩: ∃ V,V=trv ks[k] q:=⟨_,rfl⟩
    rw[<-P] at j A
    rw[<-cz] at f A
    have y1:=j wr b.out
    have y2:=f wr b.out
    have z1:=j wr.drew b.out.drew
    have z2:=f wr.drew b.out.drew
    obtain⟨HC,pY,iG⟩:=iJ A j f
    have i1:(k:Int)<(m:Int):=aG
    clear A j f P cz S R Q t4 ei Ii
    go_upto_region 6 with (fail)
    go_region_held3 (fun w'=>w'.cell? ⟨w.heap.size,13,none⟩=some (.slice (some ⟨z,o,none⟩) m c)/\w'.cell? ⟨w.heap.size+1,13,none⟩=some (.slice (some ⟨y,o',none⟩) m l)/\(ox (.pointer (some ⟨z,o+k*14,none⟩))).run prog w'= .ok V1 w'/\(ox (.pointer (some ⟨y,o'+k*14,none⟩))).run prog w'= .ok V2 w')
     (first|go_keep|exact⟨Y,U,q3,q4⟩|exact⟨O,N,z1,z2⟩)
     (first|(go_at_call 22;(with_reducible refine(HC.out _ (by first|exact b.out|exact b.out.drew)).mono ?_);rintro e C ⟨rfl,Io⟩;have B:Below wr.heap.size wr C:=(by first|exact Io|exact(eN.drew).trans Io);have E:=aL (b.out.trans (B.mono nT));have Y:=(B.cell (p:=⟨w.heap.size,13,none⟩) (show w.heap.size<wr.heap.size by omega)).trans O;have U:=(B.cell (p:=⟨w.heap.size+1,13,none⟩) dP).trans N;have q3:=pY.out C E.out;have q4:=iG.out C E.out;have bP:=B.size))
    all_goals(go_wp2_with fail)
    all_goals(exact⟨⟨k+1,by omega,by go_num,Y,U,by omega,E⟩,by simp[intOf];omega⟩)
   ·have dM:k=m:=aG
    subst dM
    go_wp2_with fail
    go_ret
    exact RetB.of rfl b.out
end

section
open Fx (Tr)
namespace Fx
mutual
def vw:Tr->Bool | .mk _ _ x _ _ _ _ ks=>decide (x.length<=2000)&&(decide (ks.length<=600)&&sn ks)
def sn:List Tr->Bool | []=>true|k::ks=>vw k&&sn ks
end
def ypB (t:Tr):vw t=(decide (t.txt.length<=2000)&&(decide (t.kids.length<=600)&&sn t.kids)):=by cases t;rw[vw];rfl
def ygx (ks a:List Tr):sn (ks++a)=(sn ks&&sn a):=by
 induction ks with
 |nil=>simp[sn]
 |cons k ks b=>rw[lB,sn,sn,b,Bool.and_assoc]
def yrz {ks:List Tr} {k:Nat} (h:k<ks.length):sn (ks.take (k+1))=(sn (ks.take k)&&vw ks[k]):=by rw[yh h,ygx,sn,sn,jW]
def yp2 {ks:List Tr} {k:Nat} (h:k<ks.length) (a:vw ks[k]=false):sn ks=false:=by
 have e:ks=ks.take k++ks[k]::ks.drop (k+1):=by rw[ykL,ze]
 rw[e,ygx,sn,a];simp
mutual
def yhA: ∀ t:Tr,vw t=true->tmax t<=2000
 | .mk _ _ x _ _ _ _ ks,h=>by rw[vw,fs,fs,kF] at h;have:=yjE ks h.2.2;rw[tmax];omega
def yjE: ∀ ks:List Tr,sn ks=true->uL ks<=2000
 | [],_=>by rw[uL];omega
 |k::ks,h=>by rw[sn,fs] at h;have:=yhA k h.1;have:=yjE ks h.2;rw[uL];omega
end
end Fx
def yhl: ∀ (n:Nat) (t:Tr) (v:Value) (lo hi:Nat) (w:World),Fx.num t<=n->TreeAt w lo hi t v->hi<=w.heap.size->
 Calls prog 9 #[trv t v] w (RetB (.bool (Fx.vw t)) w):=by
 intro n
 induction n with
 |zero=>intro t v lo hi w hn;have:=Tr.yo t;omega
 |succ n O=>
  intro t v lo hi w hn P U
  obtain⟨K,X,q,I,F,a1,a2,a3,a4,b1,b2,b3,b4,a,m,c,rfl,Z,L,z,hc,kD,H⟩:=P.flat
  obtain⟨r,d⟩:=bx (Fx.vw t)
  rw[<-d,Z]
  have N:t.txt.length=q.size:=by rw[L];exact dN q
  obtain⟨ks,y⟩:=bx (t.kids)
  rw[Fx.ypB,<-y,N] at d
  rw[vd,<-y] at hn
  rw[<-y] at z H
  rw[<-z] at d
  have V: ∀ (k:Nat) (D:k<ks.length),Fx.num ks[k]<=n:=fun k D=>by have:=yy D;omega
  obtain⟨HK,HM,cW,IH⟩:=jv V z H O
  clear V z H O Z y P hn hc L N
  by_cases j:q.size<=2000
  rotate_left
  ·have HE:=aL (show r=false by rw[d,eL j];rfl)
   have i1:(2000:Int)<(q.size:Int):=aG
   clear d j
   go_enter func9,ntmps9
   go_wp2_with fail
   exact vK
  have i1:(q.size:Int)<=2000:=aG
  by_cases s:m<=600
  rotate_left
  ·have HE:=aL (show r=false by rw[d,eL s];simp)
   have i2:(600:Int)<(m:Int):=aG
   clear d j s
   go_enter func9,ntmps9
   go_wp2_with fail
   exact vK
  have i2:(m:Int)<=600:=aG
  rw[fv j,fv s,gA,gA] at d
  have HR:=aL d
  clear d j s
  go_enter func9,ntmps9
  go_wp2_with fail
  go_loopw [3] (fun i wr=> ∃ k:Nat,k<=m/\i= .int .i64 k/\Hid (Fx.sn (ks.take k)=true)/\wr.cell? ⟨w.heap.size,13,none⟩=some (.slice a m c)/\w.heap.size<wr.heap.size/\Below w.heap.size w wr) (fun i _=>m-(intOf i).toNat)
  case atStart=>exact⟨0,iH _,rfl,aL (by rw[wh,Fx.sn]),by simp[go_sem],by simp,by(repeat(first|exact eN|assumption|refine vh ?_ mY _|refine vc ?_ mY _|refine vr ?_|refine oY ?_ _))⟩
  case round=>
   obtain⟨k,D,rfl,g,gX,R,T⟩:=hrel
   have nT:=T.size
   by_cases aW:k<m
   ·have x:k<ks.length:=Cf
    obtain⟨b,o,rfl,aw,hb2,G⟩:=cW.out aG
    obtain⟨K',X',T',I',F',kX,kW,kV,kU,kT,kS,kR,kQ,Y,M,S,E,B,q0,q1,q2,q3,q4,q5,q6,q7,q8,q9,Eh,Eg,Ef,Ee⟩:=G.kid (wr:=wr) x (T.block b aG)
    have A: ∀ (W:World),Below w.heap.size w W->Calls prog 9 #[.agg #[.int .i64 K',.int .u64 (X':Nat),.string T',.bool I',.int .i64 F',.int .i64 kX,.int .i64 kW,.bool kV,.bool kU,.int .i64 kT,.int .i64 kS,.bool kR,.bool kQ,.slice Y M S]] W (RetB (.bool (Fx.vw ks[k])) W):=fun W Q=>by have h:=IH.out ks[k] (.slice Y M S) lo hi W (HK.out k x) (B.below Q U) (dE U Q.size);rw[E] at h;exact h
    have l:=Fx.yrz x
    have u:Fx.vw ks[k]=false->r=false:=fun h=>by rw[HR.out,Fx.yp2 x h]
    obtain⟨p,C⟩:=bx (Fx.vw ks[k])
    rw[<-C] at A l u
    rw[g.out,gA] at l
    have HC:=aL A
    have i3:(k:Int)<(m:Int):=aG
    cases p
    ·have HE:=aL (u rfl)
     clear A l u C g B G E
     go_wp2_with (first|(go_at_call 9;(with_reducible refine(HC.out _ dt).mono ?_);rintro e w2 ⟨rfl,f⟩;obtain⟨aI,aO,aN,J⟩:=g9 (w) f;(try simp only[fO,gz,fY,gt] at J);obtain⟨aA,aF,aE,aD,au,aJ⟩:=own6 f (w.heap.size)))
     exact vK
    ·have HS:=aL l
     clear A l u C g B G E
     go_wp2_with (first|(go_at_call 9;(with_reducible refine(HC.out _ dt).mono ?_);rintro e w2 ⟨rfl,f⟩;obtain⟨aI,aO,aN,J⟩:=g9 (w) f;(try simp only[fO,gz,fY,gt] at J);obtain⟨aA,aF,aE,aD,au,aJ⟩:=own6 f (w.heap.size)))
     exact⟨⟨k+1,by omega,by go_num,HS,(f.cell (p:=⟨w.heap.size,13,none⟩) (by first|exact R|omega)).trans gX,eR R f.size,aI⟩,by simp[intOf];omega⟩
   ·have dM:k=m:=aG
    subst dM
    have HE:=aL (show r=true by
     have h:=g.out;rw[HM.out,zD] at h
     rw[HR.out,h])
    clear g
    go_wp2_with fail
    exact vK
end

section
open Fx (Tr)
attribute [local go_sem ↓] qh qn xy xc
def ypK {f:Func} {n:Nat} (b:f.results= #[ResultVar.cell n 27]) {tmps:Array Value} {B:Nat} {W:World} {X:Value} (h:tmps.getD n undef= .pointer (some ⟨B,0,none⟩)) (D:Nd W B X):
 (results f tmps).run prog W= .ok X W:=by
 have hl:=fx D;unfold ox Instr.loadAt at hl;have h':tmps[n]?.getD undef= .pointer (some ⟨B,0,none⟩):=nu;obtain⟨cs,i,mm⟩:=D;obtain⟨d,a,hd⟩:=VQ;have hv:=yeM (P:=prog) W B 0 _ cs d (fun j v hv=>by rw[iR];exact mm.get j hv) a hd (by rw[OP,i.len]);rw[<-i.val] at hv;simp[results,b,h',asAddr,zM,zq,z7,hv]
def yfF {f:Func} {n:Nat} {Q:Ending->World->Prop} (a:f.results= #[ResultVar.cell n 27]) {tmps:Array Value} {B:Nat} {W:World} {X:Value} (h:tmps.getD n undef= .pointer (some ⟨B,0,none⟩)) (D:Nd W B X)
 (b:Q (.returned X) W):bodyPost prog f Q Exit.ret {tmps:=tmps,defers:=[]} W:=
 eB (ypK a h D) rfl b
def numT (x:Nat):Tr:= .mk 1 x [] false 0 Ce.zero Ce.zero []
def yjJ (x:Nat) (w:World):Calls prog 25 #[.int .u64 x] w (fun e w'=>e= .returned (trv (numT x) (.slice none 0 0))/\Below w.heap.size w w'):=by
 obtain⟨X,c⟩:=bx (trv (numT x) (.slice none 0 0));have g:IsN X (trc (numT x) (.slice none 0 0)):=by rw[c];exact IsN.of _ _ _ _
 have f:=Nd.zero w;have d:=jP f g;have i:=f.put g;obtain⟨Z,hZ⟩:=bx (nput (w.alloc jg) w.heap.size X);have j:Below w.heap.size w Z:=yb5;rw[<-hZ] at d i;unfold jg at d;rw[c] at d;simp only[trv,numT,Fx.Tr.kind,Fx.Tr.bits,Fx.Tr.txt,Fx.Tr.is,Fx.Tr.fail,Fx.Tr.a,Fx.Tr.b,Ce.zero] at d;rw[<-c];obtain⟨k,l⟩:=dY i j;clear i f j hZ g c;go_enter func25,ntmps25
 go_wp2_with fail
 exact yfF results25 es k.out ⟨rfl,l.out⟩
def If (s:ByteArray) (t u:Tr) (X Y:Value) (lo:Nat) (w:World) (hX:TreeV w lo X t) (hY:TreeV w lo Y u) (dp:lo<=w.heap.size):
 Calls prog 24 #[.string s,X,Y] w (fun e w'=> ∃ Z,e= .returned Z/\TreeV w' lo Z (Fx.nod 8 s.data.toList [t,u])/\Below w.heap.size w w'):=by
 obtain⟨E,r,x⟩:=hX;obtain⟨M,D,y⟩:=hY;obtain⟨cs,q⟩:=r.isN;obtain⟨ds,o⟩:=D.isN;obtain⟨v1,e1,O⟩:=r.at x;obtain⟨v2,e2,P⟩:=D.at y;obtain⟨rU,rR,rT,rV,rW,rQ,rP,rO,rN,rM,rL,rK,rJ,rH,rI,rG, -,pC, -, -, -, -, -⟩:=O.flat;obtain⟨Fy,Fv,Fw,Fz,FA,Fu,Ft,Fs,Fr,Fq,Fp,Fo,Fn,Fk,Fm,Fj, -,U, -, -, -, -, -⟩:=P.flat;refine yjZ ?_;intro eX;have z:Y= .agg #[.int .i64 Fy,.int .u64 (Fv:Nat),.string Fw,.bool Fz,.int .i64 FA,.int .i64 Fu,.int .i64 Ft,.bool Fs,.bool Fr,.int .i64 Fq,.int .i64 Fp,.bool Fo,.bool Fn,.slice Fk Fm Fj]:=e2.trans U;have Dr:=q.val;have K:=o.val;obtain⟨f,i⟩: ∃ W,W=w.alloc (.cells cs.toArray 27):=⟨_,rfl⟩;obtain⟨d,j⟩: ∃ W,W=f.alloc (.cells ds.toArray 27):=⟨_,rfl⟩;obtain⟨c,g⟩: ∃ W,W=d.alloc jg:=⟨_,rfl⟩;obtain⟨C,l⟩: ∃ W,W=c.alloc (.cells (cs++ds).toArray 27):=⟨_,rfl⟩;have z1:f.heap.size=w.heap.size+1:=by rw[i];simp
 have z2:d.heap.size=w.heap.size+2:=by rw[j];simp[z1]
 have z3:c.heap.size=w.heap.size+3:=by rw[g];simp[z2]
 have z4:C.heap.size=w.heap.size+4:=by rw[l];simp[z3]
 have b1:Below w.heap.size w f:=by rw[i];exact ek
 have b2:Below f.heap.size f d:=by rw[j];exact ek
 have B:Below d.heap.size d c:=by rw[g];exact ek
 have H:Below c.heap.size c C:=by rw[l];exact ek
 have R:Nd c w.heap.size X:=by
  have h:Nd f w.heap.size X:=by rw[i];exact Nd.new q
  exact(h.on b2).on B
 have Q:Nd c (w.heap.size+1) Y:=by
  have h:Nd d f.heap.size Y:=by rw[j];exact Nd.new o
  rw[z1] at h;exact h.on B
 have G:Nd C (w.heap.size+2) znv:=by
  have h:Nd c d.heap.size znv:=by rw[g];exact Nd.zero d
  rw[z2] at h;exact h.on H
 have T:=fx R;have S:=fx Q;have v:=yaY q o c;rw[<-l,z3] at v;obtain⟨V,hV⟩:=bx (trv (Fx.nod 8 s.data.toList [t,u]) (.slice (some ⟨w.heap.size+3,0,none⟩) 2 2));have L:IsN V (trc (Fx.nod 8 s.data.toList [t,u]) (.slice (some ⟨w.heap.size+3,0,none⟩) 2 2)):=by rw[hV];exact IsN.of _ _ _ _
 have n:=jP G L;have F:=G.put L;obtain⟨I,m⟩: ∃ W,W=nput C (w.heap.size+2) V:=⟨_,rfl⟩;rw[<-m] at n F;have A:Below w.heap.size w c:=b1.trans ((b2.mono aG).trans (B.mono aG));have b5:Below w.heap.size w I:=by rw[m];exact zg aG (A.trans (H.mono aG))
 have MM:(⟨s.data.toList.toArray⟩:ByteArray)=s:=Dc.qR _ _ rfl
 have Iv:TreeV I lo V (Fx.nod 8 s.data.toList [t,u]):=by
  have g1:TreeX c E X t:=r.kept (fun _ h=>h) (fun k h=>A.block k (x k h).2);have g2:TreeX c (fun k=>E k∨M k) X t:=g1.kept (fun _ h=>Or.inl h) (fun _ _=>rfl);have g3:TreeX c (fun k=>E k∨M k) Y u:=(D.kept (fun _ h=>h) (fun k h=>A.block k (y k h).2)).kept (fun _ h=>Or.inr h) (fun _ _=>rfl);have J: ∀ k,E k∨M k->lo<=k/\k<w.heap.size:=fun k h=>h.elim (x k) (y k);have g4:=TreeX.two g2 g3 q o (fun k h=>by have:=J k h;omega) 8 s;rw[<-l,z3,<-hV] at g4;refine⟨_,g4.kept (fun _ h=>h) (fun k h=>?_),fun k h=>?_⟩
  ·rw[m];refine uz ?_ V;rcases h with h|h
   ·have:=J k h;omega
   ·omega
  ·have z5:I.heap.size=w.heap.size+4:=by rw[m,yI];exact z4
   rcases h with h|h
   ·have:=J k h;omega
   ·omega
 rw[hV] at n;simp only[trv,Fx.nod,Fx.Tr.kind,Fx.Tr.bits,Fx.Tr.txt,Fx.Tr.is,Fx.Tr.fail,Fx.Tr.a,Fx.Tr.b,Ce.zero,MM] at n;rw[show((0:Nat):Int)=0 from rfl] at n;rw[Dr] at eX;rw[K] at z;have eC:cs.toArray=_:=Yg eX;have eD:ds.toArray=_:=Yg z;rw[eC] at i;rw[eD] at j;unfold jg at g;refine yjP ?_;intro qX;have N:Y= .agg #[.int .i64 Fy,.int .u64 (Fv:Nat),.string Fw,.bool Fz,.int .i64 FA,.int .i64 Fu,.int .i64 Ft,.bool Fs,.bool Fr,.int .i64 Fq,.int .i64 Fp,.bool Fo,.bool Fn,.slice Fk Fm Fj]:=K.trans z;rw[qX] at T v ⊢;rw[N] at S v ⊢;subst i j;obtain⟨HN,HB,HT⟩:=iJ F b5 Iv;rw[g] at T S v;have z0:w.heap.size<w.heap.size+1:=aG;rw[show w.heap.size+2=w.heap.size+1+1 from rfl] at n;clear F b5 Iv R Q G L hV m l b1 b2 B H A eX z Dr K eC eD r D x y q o e1 e2 O P pC U qX N z1 z2 z3 z4 g;go_enter func24,ntmps24
 go_wp2_with fail
 exact yfF results24 es HN.out ⟨_,rfl,HT.out,HB.out⟩
def yeb (s:ByteArray) (t:Tr) (X:Value) (lo:Nat) (w:World) (K:TreeV w lo X t) (R:lo<=w.heap.size):
 Calls prog 26 #[.string s,X] w (fun e w'=> ∃ Z,e= .returned Z/\TreeV w' lo Z (Fx.nod 7 s.data.toList [t])/\Below w.heap.size w w'):=by
 obtain⟨Q,o,g⟩:=K;obtain⟨cs,m⟩:=o.isN;obtain⟨v1,e1,C⟩:=o.at g;obtain⟨rU,rR,rT,rV,rW,rQ,rP,rO,rN,rM,rL,rK,rJ,rH,rI,rG, -,pC, -, -, -, -, -⟩:=C.flat;refine yjZ ?_;intro eX;have Dr:=m.val;obtain⟨d,i⟩: ∃ W,W=w.alloc (.cells cs.toArray 27):=⟨_,rfl⟩;obtain⟨c,f⟩: ∃ W,W=d.alloc jg:=⟨_,rfl⟩;obtain⟨q,j⟩: ∃ W,W=c.alloc (.cells cs.toArray 27):=⟨_,rfl⟩;have z1:d.heap.size=w.heap.size+1:=by rw[i];simp
 have z3:c.heap.size=w.heap.size+2:=by rw[f];simp[z1]
 have z4:q.heap.size=w.heap.size+3:=by rw[j];simp[z3]
 have I:Below w.heap.size w d:=by rw[i];exact ek
 have z:Below d.heap.size d c:=by rw[f];exact ek
 have y:Below c.heap.size c q:=by rw[j];exact ek
 have D:Nd c w.heap.size X:=by
  have h:Nd d w.heap.size X:=by rw[i];exact Nd.new m
  exact h.on z
 have u:Nd q (w.heap.size+1) znv:=by
  have h:Nd c d.heap.size znv:=by rw[f];exact Nd.zero d
  rw[z1] at h;exact h.on y
 have E:=fx D;have v:=W4 m c;rw[<-j,z3] at v;obtain⟨V,hV⟩:=bx (trv (Fx.nod 7 s.data.toList [t]) (.slice (some ⟨w.heap.size+2,0,none⟩) 1 1));have B:IsN V (trc (Fx.nod 7 s.data.toList [t]) (.slice (some ⟨w.heap.size+2,0,none⟩) 1 1)):=by rw[hV];exact IsN.of _ _ _ _
 have n:=jP u B;have r:=u.put B;obtain⟨A,l⟩: ∃ W,W=nput q (w.heap.size+1) V:=⟨_,rfl⟩;rw[<-l] at n r;have x:Below w.heap.size w c:=I.trans (z.mono aG);have H:Below w.heap.size w A:=by rw[l];exact zg aG (x.trans (y.mono aG))
 have M:(⟨s.data.toList.toArray⟩:ByteArray)=s:=Dc.qR _ _ rfl
 have J:TreeV A lo V (Fx.nod 7 s.data.toList [t]):=by
  have L:TreeX c Q X t:=o.kept (fun _ h=>h) (fun k h=>x.block k (g k h).2);have F:=TreeX.one L m (fun k h=>by have:=g k h;omega) 7 s;rw[<-j,z3,<-hV] at F;refine⟨_,F.kept (fun _ h=>h) (fun k h=>?_),fun k h=>?_⟩
  ·rw[l];refine uz ?_ V;rcases h with h|h
   ·have:=g k h;omega
   ·omega
  ·have z5:A.heap.size=w.heap.size+3:=by rw[l,yI];exact z4
   rcases h with h|h
   ·have:=g k h;omega
   ·omega
 rw[hV] at n;simp only[trv,Fx.nod,Fx.Tr.kind,Fx.Tr.bits,Fx.Tr.txt,Fx.Tr.is,Fx.Tr.fail,Fx.Tr.a,Fx.Tr.b,Ce.zero,M] at n;rw[show((0:Nat):Int)=0 from rfl] at n;rw[Dr] at eX;have G:cs.toArray=_:=Yg eX;rw[G] at i;unfold jg at f;refine yjP ?_;intro qX;rw[qX] at E v ⊢;subst i;obtain⟨O,P,N⟩:=iJ r H J;rw[f] at E v;have z0:w.heap.size<w.heap.size+1:=aG;clear r H J D u B hV l j I z y x eX Dr G o g m e1 C pC qX z1 z3 z4 f;go_enter func26,ntmps26
 go_wp2_with fail
 exact yfF results26 es O.out ⟨_,rfl,N.out,P.out⟩
end

section
open Fx (Tr)
def yfi (x y z u v p q r:Value):Sem Value:=Instr.buildSlice 25 8 #[(0,x),(1,y),(2,z),(3,u),(4,v),(5,p),(6,q),(7,r)]
def ykQ (a:Operand->Value) (dst:Option Tmp) (x y z u v p q r:Operand) (b:TypeId) (pos:String) (after:Array Edge) (guard:Option (Nat × Bool)):
 execOp a {dst,op:= .buildSlice 25 8 #[(0,x),(1,y),(2,z),(3,u),(4,v),(5,p),(6,q),(7,r)],type:=b,pos,after,guard}=(do pure (Next.value (<-yfi (a x) (a y) (a z) (a u) (a v) (a p) (a q) (a r)))):=by
 unfold execOp yfi;simp
def ytL (a0 a1 a2 a3 a4 a5 a6 a7 a8 a9 Lo Ln Lm Ll b0 b1 b2 b3 b4 b5 b6 b7 b8 b9 Lk Lj Li Lh c0 c1 c2 c3 c4 c5 c6 c7 c8 c9 Du Dt Ds tN d0 d1 d2 d3 d4 d5 d6 Z Y X d10 d11 d12 d13 W V U T S R Q P O N o c C Lf M L K J I H G F E D f10 f11 f12 f13 A z y x v u t s r q Ld Lb La K9 n m l k j i g f e d B b a K8:Value) (w:World):(Instr.buildSlice 25 8 #[(0,.agg #[a0,a1,a2,a3,a4,a5,a6,a7,a8,a9,Lo,Ln,Lm,Ll]),(1,.agg #[b0,b1,b2,b3,b4,b5,b6,b7,b8,b9,Lk,Lj,Li,Lh]),(2,.agg #[c0,c1,c2,c3,c4,c5,c6,c7,c8,c9,Du,Dt,Ds,tN]),(3,.agg #[d0,d1,d2,d3,d4,d5,d6,Z,Y,X,d10,d11,d12,d13]),(4,.agg #[W,V,U,T,S,R,Q,P,O,N,o,c,C,Lf]),(5,.agg #[M,L,K,J,I,H,G,F,E,D,f10,f11,f12,f13]),(6,.agg #[A,z,y,x,v,u,t,s,r,q,Ld,Lb,La,K9]),(7,.agg #[n,m,l,k,j,i,g,f,e,d,B,b,a,K8])]).run prog w= .ok (.slice (some ⟨w.heap.size,0,none⟩) 8 8) (w.alloc (Obj.cells #[a0,a1,a2,a3,a4,a5,a6,a7,a8,a9,Lo,Ln,Lm,Ll,b0,b1,b2,b3,b4,b5,b6,b7,b8,b9,Lk,Lj,Li,Lh,c0,c1,c2,c3,c4,c5,c6,c7,c8,c9,Du,Dt,Ds,tN,d0,d1,d2,d3,d4,d5,d6,Z,Y,X,d10,d11,d12,d13,W,V,U,T,S,R,Q,P,O,N,o,c,C,Lf,M,L,K,J,I,H,G,F,E,D,f10,f11,f12,f13,A,z,y,x,v,u,t,s,r,q,Ld,Lb,La,K9,n,m,l,k,j,i,g,f,e,d,B,b,a,K8] 27)):=cI
def yqK {A B C D E F G H:Value} {k j cs ds i h g a:List Value} (f:IsN A k) (hb:IsN B j) (e:IsN C cs) (hd:IsN D ds) (d:IsN E i) (c:IsN F h) (hg:IsN G g) (b:IsN H a) (w:World):
 (yfi A B C D E F G H).run prog w= .ok (.slice (some ⟨w.heap.size,0,none⟩) 8 8) (w.alloc (Obj.cells (k++(j++(cs++(ds++(i++(h++(g++a))))))).toArray 27)):=by
 obtain⟨a0,a1,a2,a3,a4,a5,a6,a7,a8,a9,Lo,Ln,Lm,Ll,ea⟩:=f.agg;obtain⟨b0,b1,b2,b3,b4,b5,b6,b7,b8,b9,Lk,Lj,Li,Lh,eb⟩:=hb.agg;obtain⟨c0,c1,c2,c3,c4,c5,c6,c7,c8,c9,Du,Dt,Ds,tN,ec⟩:=e.agg;obtain⟨d0,d1,d2,d3,d4,d5,d6,d7,d8,d9,d10,d11,d12,d13,ed⟩:=hd.agg;obtain⟨e0,e1,e2,e3,e4,e5,e6,e7,e8,e9,P,v,fP,Lf,ee⟩:=d.agg;obtain⟨f0,f1,f2,f3,f4,f5,f6,f7,f8,f9,f10,f11,f12,f13,ef⟩:=c.agg;obtain⟨Z,Y,X,W,V,U,T,S,R,Q,Ld,Lb,La,K9,eg⟩:=hg.agg;obtain⟨O,N,M,L,K,J,I,z,y,x,fa,u,t,K8,eh⟩:=b.agg;have s:=f.val;have r:=hb.val;have q:=e.val;have p:=hd.val;have o:=d.val;have n:=c.val;have m:=hg.val;have l:=b.val;subst ea eb ec ed ee ef eg eh;rw[s,r,q,p,o,n,m,l];exact ytL a0 a1 a2 a3 a4 a5 a6 a7 a8 a9 Lo Ln Lm Ll b0 b1 b2 b3 b4 b5 b6 b7 b8 b9 Lk Lj Li Lh c0 c1 c2 c3 c4 c5 c6 c7 c8 c9 Du Dt Ds tN d0 d1 d2 d3 d4 d5 d6 d7 d8 d9 d10 d11 d12 d13 e0 e1 e2 e3 e4 e5 e6 e7 e8 e9 P v fP Lf f0 f1 f2 f3 f4 f5 f6 f7 f8 f9 f10 f11 f12 f13 Z Y X W V U T S R Q Ld Lb La K9 O N M L K J I z y x fa u t K8 w
end

section
open Fx (Tr)
def ylq: ∀ (css:List (List Value)) (k j:Nat) (c:List Value) (u:Value),(∀ c ∈ css,c.length=14)->css[k]? =some c->c[j]? =some u->css.flatten[k*14+j]? =some u
 | [],k,j,c,u,_,h,_=>by simp at h
 |d::css,0,j,c,u,hl,h,hj=>by obtain rfl:d=c:=nu;have a:=hl d cn;have:j<d.length:=(o6.1 hj).1;rw[WQ,zf aG];simpa using hj
 |d::css,k+1,j,c,u,hl,h,hj=>by have a:=hl d cn;rw[WQ,WC aG,a,show(k+1)*14+j-14=k*14+j by omega];exact ylq css k j c u (fun c b=>hl c (by simp[b])) nu hj
def ynY {w:World} {css:List (List Value)} {t:Tr} {v:Value} {k:Nat} (hl: ∀ c ∈ css,c.length=14) (h:css[k]? =some (trc t v)):NodeAt (w.alloc (.cells css.flatten.toArray 27)) w.heap.size (k*14) t v:=fun j u a=>
 (Mem.new w css.flatten 27).get (k*14+j) (ylq css k j _ u hl h a)
end

section
open Fx (Tr)
def KidsV (w:World) (lo:Nat) (v:Value) (ks:List Tr):Prop:= ∃ A:Nat->Prop,TreeS w A (Fx.nod 0 [] ks) v/\ ∀ k,A k->lo<=k/\k<w.heap.size
def KidsV.kept {w w':World} {lo:Nat} {v:Value} {ks:List Tr} (h:KidsV w lo v ks) (e:w.heap.size<=w'.heap.size) (f: ∀ k,lo<=k->k<w.heap.size->w'.heap[k]? =w.heap[k]?):KidsV w' lo v ks:=by obtain⟨A,h,c⟩:=h;exact⟨A,h.kept (fun _ h=>h) (fun k b=>f k (c k b).1 (c k b).2),fun k b=>⟨(c k b).1,eR (c k b).2 e⟩⟩
def KidsV.on {w w':World} {lo:Nat} {v:Value} {ks:List Tr} (h:KidsV w lo v ks) (hb:Below w.heap.size w w'):KidsV w' lo v ks:=h.kept hb.size (fun k _ b=>hb.block k b)
def TreeV.on {w w':World} {lo:Nat} {v:Value} {t:Tr} (h:TreeV w lo v t) (hb:Below w.heap.size w w'):TreeV w' lo v t:=h.kept cm hb.size (fun k _ b=>hb.block k b)
def KidsV.tree {w:World} {lo:Nat} {v:Value} {ks:List Tr} (h:KidsV w lo v ks) (K:Int) (X:Nat) (T:List UInt8) (I:Bool) (F:Int) (a b:Ce.Rf):TreeV w lo (trv (.mk K X T I F a b ks) v) (.mk K X T I F a b ks):=by obtain⟨A,h,c⟩:=h;exact⟨A,⟨v,rfl,TreeS.eq.2 (TreeS.eq.1 h)⟩,c⟩
def KidsV.form {w:World} {lo:Nat} {v:Value} {ks:List Tr} (h:KidsV w lo v ks): ∃ a c,v= .slice a ks.length c:=by obtain⟨A,h,_⟩:=h;exact h.form
def KidsV.row {w:World} {lo:Nat} (s:lo<=w.heap.size) {css:List (List Value)} {ks:List Tr} (hl:css.length=ks.length) (u:ks.length<=9223372036854775807)
 (h: ∀ (k:Nat) (t:Tr),ks[k]? =some t-> ∃ X cs,TreeV w lo X t/\IsN X cs/\css[k]? =some cs):
 KidsV (w.alloc (.cells css.flatten.toArray 27)) lo (.slice (some ⟨w.heap.size,0,none⟩) ks.length ks.length) ks:=by
 have x: ∀ c ∈ css,c.length=14:=fun c n=>by obtain⟨k,b,e⟩:=List.getElem_of_mem n;obtain⟨X,cs,_,l,g⟩:=h k ks[k] (n9 aG);rw[n9 b,e] at g;cases g;exact l.len
 have q:Below w.heap.size w (w.alloc (.cells css.flatten.toArray 27)):=ek;refine⟨fun k=>lo<=k/\k<w.heap.size+1,TreeS.eq.2 ⟨_,_,rfl,cm,u,fun _=>⟨w.heap.size,0,rfl,⟨s,VB _⟩,RowS.of fun k b=>?_⟩⟩,fun k b=>⟨b.1,by rw[i7];exact b.2⟩⟩;have m:k<ks.length:=b;obtain⟨X,cs,r,l,g⟩:=h k ks[k] (n9 m);obtain⟨A,⟨v,e,hv⟩,i⟩:=r;subst e;obtain rfl:=l.cells;refine⟨v,hv.kept (fun j f=>⟨(i j f).1,Nat.lt_succ_of_lt (i j f).2⟩) (fun j f=>q.block j (i j f).2),?_⟩;rw[iR];exact ynY x g
def Yi (Φ:Nat->World->Value->Prop) (o:Oper) (a:Act) (w:World) (b:Act) (w':World):Prop:= ∃ v,b=a.put o.dst v/\Below w.heap.size w w'/\ ∀ d,o.dst=some d->Φ d w' v
section
variable {Φ:Nat->World->Value->Prop} {lo:Nat} {o:Oper} {a:Act} {w:World} {d:Nat} {Q:Exit->Act->World->Prop}
def QV {v:Value} {w':World} (c:(execOp a.eval o).run prog w= .ok (.value v) w') (hb:Below w.heap.size w w') (hd:o.dst=some d) (b:Φ d w' v):Oper.wp prog o a w (Yi Φ o a w) Q:=by unfold Oper.wp;rw[c];exact⟨v,rfl,hb,fun e h=>by rw[hd] at h;cases h;exact b⟩
def yfZ {f:FuncId} {args:Array Value} (b:(execOp a.eval o).run prog w= .ok (.enter f args) w) (hd:o.dst=some d)
 (h:Calls prog f args w (fun e w'=> ∃ v,e= .returned v/\Below w.heap.size w w'/\Φ d w' v)):Oper.wp prog o a w (Yi Φ o a w) Q:=by
 unfold Oper.wp;rw[b];refine ycw h fun e w' ⟨v,c,hb,hv⟩=>?_;subst c;exact⟨v,rfl,hb,fun g h=>by rw[hd] at h;cases h;exact hv⟩
end
def yeP {P:Program} {f:FuncId} {b:Func} {c:Code} (g:P.funcs[f]? =some b) (e:(b.name== "runtime.NumGoroutine")=false) (hb:b.body=some c) (args:Array Value) (w:World):(callFunc f args).run P w= .ok (.enter f args) w:=by
 have h:b.name≠ "runtime.NumGoroutine" :=by simpa using e
 simp[callFunc,g,h,hb]
def yfx {o:Oper} {a:Act} {f:FuncId} {xs:Array Operand} {c:Array TypeId} (b:o.op= .call {callee:= .value (.func f),args:=xs,argTypes:=c}):execOp a.eval o=callFunc f (#[]++xs.map a.eval++ #[]):=by obtain⟨dst,op,e,pos,after,guard⟩:=o;simp only at b;subst b;rfl
section
variable {Φ:Nat->World->Value->Prop} {lo:Nat} {o:Oper} {a:Act} {w:World} {d:Nat} {Q:Exit->Act->World->Prop}
def yQ {x:Nat} {c:Int} {g:Array TypeId} (j:o.op= .call {callee:= .value (.func 25),args:= #[.const (.int .u64 c)],argTypes:=g}) (hx:c=(x:Int)) (hd:o.dst=some d) (k:lo<=w.heap.size)
 (b: ∀ w v,TreeV w lo v (numT x)->Φ d w v):Oper.wp prog o a w (Yi Φ o a w) Q:=by
 subst hx;refine yfZ (f:=25) (args:= #[.int .u64 (x:Int)]) (by rw[yfx j,yeP func25 cI rfl];simp[Act.eval]) hd ?_;refine ycw (yjJ x w) fun e w' ⟨i,hb⟩=>⟨_,i,hb,b _ _ ?_⟩;exact(TreeV.leaf w' lo rfl)
def PG {s:ByteArray} {x y:Operand} {t u:Tr} {c:Array TypeId} (j:o.op= .call {callee:= .value (.func 24),args:= #[.const (.string s),x,y],argTypes:=c}) (hd:o.dst=some d) (k:lo<=w.heap.size)
 (hx:TreeV w lo (a.eval x) t) (g:TreeV w lo (a.eval y) u) (b: ∀ w v,TreeV w lo v (Fx.nod 8 s.data.toList [t,u])->Φ d w v):Oper.wp prog o a w (Yi Φ o a w) Q:=by
 refine yfZ (f:=24) (args:= #[.string s,a.eval x,a.eval y]) (by rw[yfx j,yeP func24 cI rfl];simp[Act.eval]) hd ?_;refine ycw (If s t u (a.eval x) (a.eval y) lo w hx g k) fun e w' ⟨Z,i,hz,hb⟩=>⟨_,i,hb,b _ _ hz⟩
def yta {s:ByteArray} {x:Operand} {t:Tr} {c:Array TypeId} (i:o.op= .call {callee:= .value (.func 26),args:= #[.const (.string s),x],argTypes:=c}) (hd:o.dst=some d) (j:lo<=w.heap.size)
 (hx:TreeV w lo (a.eval x) t) (b: ∀ w v,TreeV w lo v (Fx.nod 7 s.data.toList [t])->Φ d w v):Oper.wp prog o a w (Yi Φ o a w) Q:=by
 refine yfZ (f:=26) (args:= #[.string s,a.eval x]) (by rw[yfx i,yeP func26 cI rfl];simp[Act.eval]) hd ?_;refine ycw (yeb s t (a.eval x) lo w hx j) fun e w' ⟨Z,g,hz,hb⟩=>⟨_,g,hb,b _ _ hz⟩
def yrk {x:Operand} {X:Value} (c:o.op= .load 27 x) (hd:o.dst=some d) (e:(ox (a.eval x)).run prog w= .ok X w) (b:Φ d w X):Oper.wp prog o a w (Yi Φ o a w) Q:=by refine QV (v:=X) ?_ eN hd b;obtain⟨dst,op,f,pos,after,guard⟩:=o;simp only at c;subst c;unfold execOp;simp only[qh,zM,e,z7,zq]
def yuE {x:Operand} (c:o.op= .assign x) (hd:o.dst=some d) (b:Φ d w (a.eval x)):Oper.wp prog o a w (Yi Φ o a w) Q:=by refine QV (v:=a.eval x) ?_ eN hd b;obtain⟨dst,op,e,pos,after,guard⟩:=o;simp only at c;subst c;unfold execOp;simp only[zq]
def ycS {c:Array (Nat × Operand)} {qs:Array (Nat × Value)} {X:Value} (e:o.op= .build 27 c) (hm:(c.map fun(i,x)=>(i,a.eval x))=qs) (hd:o.dst=some d) (f:(Instr.build 27 qs).run prog w= .ok X w) (b:Φ d w X):Oper.wp prog o a w (Yi Φ o a w) Q:=by refine QV (v:=X) ?_ eN hd b;obtain⟨dst,op,g,pos,after,guard⟩:=o;simp only at e;subst e;unfold execOp;simp only[hm,zM,f,z7,zq]
def yi4 {x:Operand} {t:Tr} (f:o.op= .buildSlice 25 1 #[(0,x)]) (hd:o.dst=some d) (j:lo<=w.heap.size)
 (hx:TreeV w lo (a.eval x) t) (b: ∀ w v,KidsV w lo v [t]->Φ d w v):Oper.wp prog o a w (Yi Φ o a w) Q:=by
 obtain⟨cs,g⟩:=hx.isN;have i:=W4 g w
 have e:=KidsV.row j (css:=[cs]) (ks:=[t]) rfl cn (fun k t' c=>by
  rcases k with _|k
  ·cases c;exact⟨_,_,hx,g,rfl⟩
  ·simp at c)
 rw[show[cs].flatten =cs by simp] at e;refine QV (v:= .slice (some ⟨w.heap.size,0,none⟩) 1 1) (w':=w.alloc (Obj.cells cs.toArray 27)) ?_ (ek) hd (b _ _ e);obtain⟨dst,op,l,pos,after,guard⟩:=o;simp only at f;subst f;rw[xy];simp only[zM,i,z7,zq]
def ysm {x y:Operand} {t u:Tr} (i:o.op= .buildSlice 25 2 #[(0,x),(1,y)]) (hd:o.dst=some d) (m:lo<=w.heap.size)
 (hx:TreeV w lo (a.eval x) t) (f:TreeV w lo (a.eval y) u) (b: ∀ w v,KidsV w lo v [t,u]->Φ d w v):Oper.wp prog o a w (Yi Φ o a w) Q:=by
 obtain⟨cs,j⟩:=hx.isN;obtain⟨ds,e⟩:=f.isN;have l:=yaY j e w
 have g:=KidsV.row m (css:=[cs,ds]) (ks:=[t,u]) rfl cn (fun k t' c=>by
  rcases k with _ | _|k
  ·cases c;exact⟨_,_,hx,j,rfl⟩
  ·cases c;exact⟨_,_,f,e,rfl⟩
  ·simp at c)
 rw[show[cs,ds].flatten =cs++ds by simp] at g;refine QV (v:= .slice (some ⟨w.heap.size,0,none⟩) 2 2) (w':=w.alloc (Obj.cells (cs++ds).toArray 27)) ?_ (ek) hd (b _ _ g);obtain⟨dst,op,n,pos,after,guard⟩:=o;simp only at i;subst i;rw[xc];simp only[zM,l,z7,zq]
def yq4 {u t s r q n m l:Operand} {t0 i g f t4 t5 e c:Tr} (G:o.op= .buildSlice 25 8 #[(0,u),(1,t),(2,s),(3,r),(4,q),(5,n),(6,m),(7,l)]) (hd:o.dst=some d) (R:lo<=w.heap.size)
 (F:TreeV w lo (a.eval u) t0) (E:TreeV w lo (a.eval t) i) (D:TreeV w lo (a.eval s) g) (C:TreeV w lo (a.eval r) f) (B:TreeV w lo (a.eval q) t4) (A:TreeV w lo (a.eval n) t5) (z:TreeV w lo (a.eval m) e) (y:TreeV w lo (a.eval l) c)
 (j: ∀ w v,KidsV w lo v [t0,i,g,f,t4,t5,e,c]->Φ d w v):Oper.wp prog o a w (Yi Φ o a w) Q:=by
 obtain⟨c0,O⟩:=F.isN;obtain⟨c1,N⟩:=E.isN;obtain⟨c2,M⟩:=D.isN;obtain⟨c3,L⟩:=C.isN;obtain⟨c4,K⟩:=B.isN;obtain⟨c5,J⟩:=A.isN;obtain⟨c6,I⟩:=z.isN;obtain⟨c7,H⟩:=y.isN;have P:=yqK O N M L K J I H w
 have x:=KidsV.row R (css:=[c0,c1,c2,c3,c4,c5,c6,c7]) (ks:=[t0,i,g,f,t4,t5,e,c]) rfl cn (fun k t' b=>by
  rcases k with _ | _ | _ | _ | _ | _ | _ | _|k
  ·cases b;exact⟨_,_,F,O,rfl⟩
  ·cases b;exact⟨_,_,E,N,rfl⟩
  ·cases b;exact⟨_,_,D,M,rfl⟩
  ·cases b;exact⟨_,_,C,L,rfl⟩
  ·cases b;exact⟨_,_,B,K,rfl⟩
  ·cases b;exact⟨_,_,A,J,rfl⟩
  ·cases b;exact⟨_,_,z,I,rfl⟩
  ·cases b;exact⟨_,_,y,H,rfl⟩
  ·simp at b)
 rw[show[c0,c1,c2,c3,c4,c5,c6,c7].flatten =c0++(c1++(c2++(c3++(c4++(c5++(c6++c7)))))) by simp] at x;refine QV (v:= .slice (some ⟨w.heap.size,0,none⟩) 8 8) (w':=w.alloc (Obj.cells (c0++(c1++(c2++(c3++(c4++(c5++(c6++c7))))))).toArray 27)) ?_ (ek) hd (j _ _ x);obtain⟨dst,op,S,pos,after,guard⟩:=o;simp only at G;subst G;rw[ykQ];simp only[zM,P,z7,zq]
end
def yvB (K:Int) (T:ByteArray) (a:Option Addr) (n c:Nat) (w:World):(Instr.build 27 #[(0,.int .i64 K),(2,.string T),(7,.slice a n c)]).run prog w= .ok (trv (.mk K 0 T.data.toList false 0 Ce.zero Ce.zero []) (.slice a n c)) w:=cI
def yqs (K:Int) (T:ByteArray) (w:World):(Instr.build 27 #[(0,.int .i64 K),(2,.string T)]).run prog w= .ok (trv (.mk K 0 T.data.toList false 0 Ce.zero Ce.zero []) (.slice none 0 0)) w:=cI
def ypb (K:Int) (b:Bool) (w:World):(Instr.build 27 #[(0,.int .i64 K),(3,.bool b)]).run prog w= .ok (trv (.mk K 0 [] b 0 Ce.zero Ce.zero []) (.slice none 0 0)) w:=cI
def yto (K F:Int) (w:World):(Instr.build 27 #[(0,.int .i64 K),(4,.int .i64 F)]).run prog w= .ok (trv (.mk K 0 [] false F Ce.zero Ce.zero []) (.slice none 0 0)) w:=cI
def Phi (tab:Nat->Tr ⊕ List Tr) (lo:Nat) (d:Nat) (w:World) (v:Value):Prop:=match tab d with | .inl t=>TreeV w lo v t | .inr ks=>KidsV w lo v ks
def Phi.on {tab:Nat->Tr ⊕ List Tr} {lo:Nat}: ∀ (d:Nat) (w w':World) (v:Value),Phi tab lo d w v->Below w.heap.size w w'->Phi tab lo d w' v:=by
 intro d w w' v h hb;unfold Phi at h ⊢;split at h
 ·exact TreeV.on h hb
 ·exact KidsV.on h hb
def om {after:Array Edge} {listed:Array Bool} (hd: ∀ e ∈ after,Region.binds .any e=true->listed.getD e.on false=true) (j:Nat) (h:(after.any fun e=>Region.binds .any e&&(e.on==j))=true):listed.getD j false=true:=by rw[Array.any_eq_true] at h;obtain⟨i,hi,h⟩:=h;rw[fs,sb] at h;have:=hd after[i] (Array.getElem_mem hi) h.1;rwa[h.2] at this
def Grown.at_off {ops:Array Oper} {a0 a:Act} {w0 w:World} {Φ:Nat->World->Value->Prop} {listed:Array Bool} (h:Grown ops a0 w0 Φ listed a w) (k:Nat) (b:(ops.all fun o=>o.dst != some k)=true):a.tmps.getD k undef=a0.tmps.getD k undef:=by rw[yW,yW,h.off k fun i o hi e=>?_];rw[yfv] at b;have:=b o (yiK hi);rw[e] at this;simp at this
def Grown.act {ops:Array Oper} {a0 a:Act} {w0 w:World} {Φ:Nat->World->Value->Prop} {listed:Array Bool} (h:Grown ops a0 w0 Φ listed a w) (D:List Nat) (b:(ops.all fun o=>match o.dst with|some d=>D.contains d|none=>true)=true):
 a= {tmps:=D.foldl (fun s k=>s.setIfInBounds k (a.tmps.getD k undef)) a0.tmps,defers:=a0.defers}:=by
 have j:=ys3 D a0.tmps a.tmps h.size fun k g=>h.off k fun i o hi e=>by rw[yfv] at b;have:=b o (yiK hi);rw[e] at this;exact g (by simpa using this)
 have c:=h.defs;obtain⟨t,f⟩:=a;simp only at j c;rw[c];congr 1
def KidsV.get {w:World} {lo:Nat} {v:Value} {ks:List Tr} (h:KidsV w lo v ks) (j:0<ks.length): ∃ b o c,v= .slice (some ⟨b,o,none⟩) ks.length c/\ks.length<=c/\lo<=b/\b<w.heap.size/\
 ∀ k (l:k<ks.length),∃ e,TreeAt w lo w.heap.size ks[k] e/\NodeAt w b (o+k*14) ks[k] e:=by
 obtain⟨A,h,f⟩:=h;have i:=TreeS.at' f _ cm h;have g:=i.get j;exact g
section
variable {Φ:Nat->World->Value->Prop} {lo:Nat} {o:Oper} {a:Act} {w:World} {d:Nat} {Q:Exit->Act->World->Prop}
def yfE {K:Int} {T:ByteArray} {x:Operand} {ks:List Tr} (g:o.op= .build 27 #[(0,.const (.int .i64 K)),(2,.const (.string T)),(7,x)]) (hd:o.dst=some d) (hx:KidsV w lo (a.eval x) ks)
 (f: ∀ w v,TreeV w lo v (Fx.nod K T.data.toList ks)->Φ d w v):Oper.wp prog o a w (Yi Φ o a w) Q:=by
 obtain⟨b,c,e⟩:=hx.form;refine ycS g (qs:= #[(0,.int .i64 K),(2,.string T),(7,a.eval x)]) (by simp[Act.eval]) hd (X:=trv (.mk K 0 T.data.toList false 0 Ce.zero Ce.zero []) (.slice b ks.length c)) ?_ (f _ _ ?_)
 ·rw[e];exact yvB _ _ _ _ _ _
 ·rw[<-e];exact KidsV.tree hx _ _ _ _ _ _ _
def ym7 {K:Int} {T:ByteArray} (c:o.op= .build 27 #[(0,.const (.int .i64 K)),(2,.const (.string T))]) (hd:o.dst=some d)
 (b: ∀ w v,TreeV w lo v (.mk K 0 T.data.toList false 0 Ce.zero Ce.zero [])->Φ d w v):Oper.wp prog o a w (Yi Φ o a w) Q:=
 ycS c (by simp[Act.eval]) hd (yqs K T w) (b _ _ (TreeV.leaf _ _ rfl))
def ymq {K:Int} {b:Bool} (e:o.op= .build 27 #[(0,.const (.int .i64 K)),(3,.const (.bool b))]) (hd:o.dst=some d)
 (c: ∀ w v,TreeV w lo v (.mk K 0 [] b 0 Ce.zero Ce.zero [])->Φ d w v):Oper.wp prog o a w (Yi Φ o a w) Q:=
 ycS e (by simp[Act.eval]) hd (ypb K b w) (c _ _ (TreeV.leaf _ _ rfl))
def yqt {K F:Int} (c:o.op= .build 27 #[(0,.const (.int .i64 K)),(4,.const (.int .i64 F))]) (hd:o.dst=some d)
 (b: ∀ w v,TreeV w lo v (.mk K 0 [] false F Ce.zero Ce.zero [])->Φ d w v):Oper.wp prog o a w (Yi Φ o a w) Q:=
 ycS c (by simp[Act.eval]) hd (yto K F w) (b _ _ (TreeV.leaf _ _ rfl))
end
end

section
open Fx (Tr)
attribute [local go_sem ↓] LP
end

section
open Fx (Tr)
attribute [local go_sem ↓] qh qn LP
end

section
open Fx (Tr)
attribute [local go_sem ↓] qh qn LP
end
end Go.Proofs.YtilbpmimoijfhaaGreatDoor
