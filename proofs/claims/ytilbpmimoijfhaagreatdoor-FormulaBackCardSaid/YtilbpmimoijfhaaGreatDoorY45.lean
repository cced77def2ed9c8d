/- Formulas: a node's level, a kid in brackets; what stands while a formula is written. -/
import Derived.Test.YtilbpmimoijfhaaGreatDoorY44
namespace Go.Proofs.YtilbpmimoijfhaaGreatDoor
set_option linter.all false
set_option maxRecDepth 100000
set_option maxHeartbeats 16000000
open Go.RowKit Go.Proofs.Tryz
section
open Fx (Tr)
def Rdr.off {w w':World} {b b2:Nat} (h:Rdr w b) (a:Onl b2 w w') (hb:b≠b2):Rdr w' b:=
 ⟨eR h.lt a.size,fun o=>(a.frozen hb h.lt).trans (h.free o),fun n d c=>(h.slot n d c).imp (fun s=>s.same fun _=>a.cell hb h.lt) (fun s=>s.same fun _=>a.cell hb h.lt)⟩
structure FoP (w:World) (g b v b2:Nat) (D L:UInt8):Prop where
 fw:FoW w g b v b2 D L
 tb:TabB b2 w
 mx: ∃ m,w.cell? ⟨2,0,none⟩=some (.int .i64 m)
 mb:2<b2
 eb:6<b2
def FoP.on {w w':World} {g b v b2:Nat} {D L:UInt8} (h:FoP w g b v b2 D L) (hb:Below w.heap.size w w'):FoP w' g b v b2 D L:=by have hl:=h.fw.wr.rd.lt;obtain⟨m,hm⟩:=h.mx;have a:=h.mb;exact⟨⟨h.fw.fo.on hb,(hb.cell (p:=⟨g,11,none⟩) h.fw.fo.gl).trans h.fw.wrc,h.fw.wr.on hb,h.fw.nb,h.fw.nv,h.fw.ng⟩,h.tb.on hb,⟨m,(hb.cell (p:=⟨2,0,none⟩) (show 2<w.heap.size by omega)).trans hm⟩,h.mb,h.eb⟩
def FoP.onl {w w':World} {g b v b2:Nat} {D L:UInt8} (h:FoP w g b v b2 D L) (a:Onl b2 w w') (c:Rdr w' b2):FoP w' g b v b2 D L:=by have hl:=h.fw.wr.rd.lt;obtain⟨m,hm⟩:=h.mx;have e:=h.mb;have d:=h.eb;have f:=h.fw.fo;exact⟨⟨⟨(a.cell h.fw.ng f.gl).trans f.dec,(a.cell h.fw.ng f.gl).trans f.lst,(a.cell h.fw.ng f.gl).trans f.rdc,f.rd.off a h.fw.nb,eR f.gl a.size,f.ne,f.ev.of a.size (a.block 6 aG f.ev.lt),f.evb⟩,(a.cell h.fw.ng f.gl).trans h.fw.wrc,h.fw.wr.onl a c,h.fw.nb,h.fw.nv,h.fw.ng⟩,h.tb.onl a,⟨m,(a.cell (k:=2) aG aG).trans hm⟩,h.mb,h.eb⟩
def FoP.ret {w w':World} {g b v b2:Nat} {D L:UInt8} (h:FoP w g b v b2 D L) (hb:Below w.heap.size w w') (x:Value):RetR b2 x w (.returned x) w':=⟨rfl,Onl.of h.fw.wr.rd.lt hb,h.fw.wr.rd.on hb⟩
def yvV (t:Tr) (v:Value) (lo hi:Nat) (w:World) (i:TreeAt w lo hi t v):
 Calls prog 85 #[trv t v] w (RetB (.int .i64 (Fx.rank t:Nat)) w):=by
 have hl:=fun W=>Es ⟨t.txt.toArray⟩ W;obtain⟨K,X,o,I,F,B,A,z,a4,y,b2,x,u,a,m,c,rfl,n,g, -, -, -, -⟩:=i.flat;rw[n];have j:t.kind=K:=by rw[g];rfl
 have e:t.txt=o.data.toList:=by rw[g];rfl
 have b:Fx.rank t=if K=8 then Fx.eT o.data.toList else if K=7 then 6 else if K=9 then 7 else 8:=by unfold Fx.rank;rw[j,e]
 rw[e] at hl;obtain⟨R,k⟩:=bx (Fx.rank t);rw[<-k] at b ⊢;have r:=aL hl;clear hl n g j e i k;by_cases d:K=8
 ·subst d;have HR:=aL b;clear b;go_enter func85,ntmps85
  go_wp2_with (first|(go_at_call 50;refine cY (r.out _) ?_))
  exact yt
 have l:(K==8)=false:=by simpa using d
 by_cases k7:K=7
 ·subst k7;have HR:=aL b;clear b d l;go_enter func85,ntmps85
  go_wp2_with fail
  exact yt
 have q:(K==7)=false:=by simpa using k7
 by_cases f:K=9
 ·subst f;have HR:=aL b;clear b d l k7 q;go_enter func85,ntmps85
  go_wp2_with fail
  exact yt
 have s:(K==9)=false:=by simpa using f
 rw[bv d,bv k7,bv f] at b;have HR:=aL b;clear b;go_enter func85,ntmps85
 go_wp2_with fail
 exact yt
def yaF (t:Tr) (v:Value) (S:ByteArray) (g b vv b2 lo hi:Nat) (D L:UInt8):Prop:=
 ∀ W:World,FoP W g b vv b2 D L->TreeAt W lo hi t v->hi<=W.heap.size->Calls prog 38 #[.pointer (some ⟨g,0,none⟩),trv t v] W (RetR b2 (.string S) W)
def KidC (t:Tr) (v:Value) (n:Nat) (S:ByteArray) (g b vv b2 lo hi:Nat) (D L:UInt8):Prop:=
 ∀ W:World,FoP W g b vv b2 D L->TreeAt W lo hi t v->hi<=W.heap.size->Calls prog 49 #[.pointer (some ⟨g,0,none⟩),trv t v,.int .i64 n] W (RetR b2 (.string S) W)
def yna (t:Tr) (v:Value) (n:Nat) (S:ByteArray) (g b vv b2 lo hi:Nat) (D L:UInt8) (hn:n<=8) (Q:S.size<=100000000) (B:yaF t v S g b vv b2 lo hi D L):KidC t v n ⟨(Fx.par n t S.data.toList).toArray⟩ g b vv b2 lo hi D L:=by
 intro w l j x;have i: ∀ W,Below w.heap.size w W->Calls prog 85 #[trv t v] W (RetB (.int .i64 (Fx.rank t:Nat)) W):=fun W d=>yvV t v lo hi W (j.below d x);have o: ∀ W,Below w.heap.size w W->Calls prog 38 #[.pointer (some ⟨g,0,none⟩),trv t v] W (RetR b2 (.string S) W):=fun W d=>B W (l.on d) (j.below d x) (dE x d.size);obtain⟨K,X,Z,I,F,V,U,T,a4,c1,c2,c3,c4,a,m,c,rfl,E, -, -, -, -, -⟩:=j.flat;rw[E] at i o ⊢;obtain⟨R,s⟩:=bx (Fx.rank t);rw[<-s] at i;obtain⟨G,z,Y⟩:=iJ i o l;have hl:=l.fw.wr.rd.lt;unfold Fx.par;rw[<-s];clear i o l E s j B;by_cases C:R<n
 ·rw[bT C];obtain⟨A,u⟩:=bx (⟨#[40]⟩++S++⟨#[41]⟩:ByteArray);have f:(⟨(40::(S.data.toList++[41])).toArray⟩:ByteArray)=A:=by rw[u];refine Dc.qR _ _ ?_;simp
  rw[f];have N:=aL u;have J:(R:Int)<(n:Int):=aG;have P: ¬ 9223372036854775807<1+S.size:=aG;have O: ¬ 9223372036854775807<1+S.size+1:=aG;clear u f;go_enter func49,ntmps49
  go_wp2_with (first|(go_at_call 85;(with_reducible refine(G.out _ dt).mono ?_);rintro e H ⟨rfl,ab⟩;refine tE ?_;intro ao ay az af ai am al aj ag ap)|(go_at_call 38;(with_reducible refine(z.out _ dt).mono ?_);rintro e y ⟨rfl,r,q⟩))
  go_ret
  have M:Onl b2 w y:=(Onl.of hl ao).trans r;refine⟨by rw[N.out];rfl,M,q⟩
 ·rw[bv C];have J: ¬ (R:Int)<(n:Int):=aG;have f:(⟨S.data.toList.toArray⟩:ByteArray)=S:=Dc.qR _ _ rfl;rw[f];clear f;go_enter func49,ntmps49
  go_wp2_with (first|(go_at_call 85;(with_reducible refine(G.out _ dt).mono ?_);rintro e H ⟨rfl,ab⟩;refine tE ?_;intro ao ay az af ai am al aj ag ap)|(go_at_call 38;(with_reducible refine(z.out _ dt).mono ?_);rintro e y ⟨rfl,r,q⟩))
  go_ret
  exact⟨rfl,(Onl.of hl ao).trans r,q⟩
end
end Go.Proofs.YtilbpmimoijfhaaGreatDoor
