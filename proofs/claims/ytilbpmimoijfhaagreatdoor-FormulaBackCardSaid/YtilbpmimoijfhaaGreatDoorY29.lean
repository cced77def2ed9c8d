/- Formulas: a function's name, by the document (printed by gen/mkk42.py). -/
import Derived.Test.YtilbpmimoijfhaaGreatDoorY17
import Derived.Test.YtilbpmimoijfhaaGreatDoorY20
namespace Go.Proofs.YtilbpmimoijfhaaGreatDoor
set_option linter.all false
set_option maxRecDepth 100000
set_option maxHeartbeats 16000000
open Go.RowKit Go.Proofs.Tryz
def ysj (c:UInt8):Fx.ps c=(decide (65<=c.toNat/\c.toNat<=90) || (decide (48<=c.toNat/\c.toNat<=57) || (decide (c.toNat=46) || decide (c.toNat=95)))):=by have h: ∀ i:Fin 256,Fx.ps (UInt8.ofNat i.1)=(decide (65<=(UInt8.ofNat i.1).toNat /\(UInt8.ofNat i.1).toNat <=90) || (decide (48<=(UInt8.ofNat i.1).toNat /\(UInt8.ofNat i.1).toNat <=57) || (decide ((UInt8.ofNat i.1).toNat =46) || decide ((UInt8.ofNat i.1).toNat =95)))):=tX;exact yah
def ywU (s:ByteArray) (w:World) (hs:s.size<=9223372036854775807):Calls prog 72 #[.string s] w (Ret0 (.bool (Fx.oF s.data.toList)) w):=by
 obtain⟨r,a⟩:=bx (Fx.oF s.data.toList);rw[<-a];have b:s.data.toList.length=s.size:=dN s;by_cases E:s.size=0
 ·have hn:s.data.toList=[]:=sV.1 aG;have HE:=aL (show r=false by rw[a,hn];rfl)
  have H:s=ByteArray.empty:=by
   have:s.data= #[]:=by rw[<-Array.toList_eq_nil_iff];exact hn
   cases s;simp only at this;rw[this];rfl
  clear a hn b;subst H;exact yaQ
 obtain⟨c,t,d⟩: ∃ c t,s.data.toList=c::t:=by
  cases e:s.data.toList with
  |nil=>rw[e] at b;simp at b;omega
  |cons c t=>exact⟨c,t,rfl⟩
 have j:Fx.oF s.data.toList=(decide (s.size<=40)&&(s.data.toList.all Fx.ps&&Fx.xj c)):=by rw[<-b,d];rfl
 have g:s[0]=c:=by have:=bs_getElem? s 0 aG;rw[d] at this;simpa using this.symm
 have I:s.toList.isEmpty=false:=oj aG;have G: ¬ s=ByteArray.empty:=fun e=>E (by rw[e];rfl);have S:0<s.size:=aG;rw[j] at a;by_cases q:s.size<=40;rotate_left
 ·have HE:=aL (show r=false by rw[a,eL q];rfl);have D: ¬ (s.size:Int)<=40:=aG;clear a b d j g;exact yaQ
 have D:(s.size:Int)<=40:=aG;rw[fv q,gA] at a;unfold Fx.xj at a;rw[<-g] at a;by_cases o:65<=s[0].toNat;rotate_left
 ·have HE:=aL (show r=false by rw[a,eL o];simp);have y: ¬ (65:Int)<=(s[0].toNat :Int):=aG;clear a b d j g;exact yaQ
 have y:(65:Int)<=(s[0].toNat :Int):=aG;by_cases m:s[0].toNat <=90;rotate_left
 ·have HE:=aL (show r=false by rw[a,eL m];simp);have x: ¬ (s[0].toNat :Int)<=90:=aG;clear a b d j g;exact yaQ
 have x:(s[0].toNat :Int)<=90:=aG;rw[fv o,fv m,gA,jW] at a;obtain⟨n,hn⟩:=bx (s.size);obtain⟨A,B⟩:=dY a b;clear a b d j g q o m;go_enter func72,ntmps72
 go_wp2
 clear y x I G;go_loopw [3] (fun i wr=> ∃ k:Nat,k<=s.size/\i= .int .i64 k/\Hid ((s.data.toList.take k).all Fx.ps=true)/\wr=w) (fun i _=>s.size-(intOf i).toNat)
 case atStart=>exact⟨0,iH _,rfl,aL cn,rfl⟩
 case round=>
  obtain⟨k,K,rfl,hs,rfl⟩:=hrel;by_cases z:k<s.size
  ·have u:k<s.data.toList.length:=by rw[B.out];exact z
   have l:s.data.toList[k]=s[k]:=by have:=bs_getElem? s k z;rw[n9 u] at this;simpa using this
   have fz:(s.data.toList.take (k+1)).all Fx.ps=Fx.ps s[k]:=by rw[yh u,Eu,hs.out,l];simp
   have eQ:Fx.ps s[k]=false->r=false:=fun h=>by
    rw[A.out]
    cases e:s.data.toList.all Fx.ps with
    |false=>rfl
    |true=>
     have:=na.1 e _ (pK u)
     rw[l,h] at this;cases this
   have pM:=ysj s[k];have C:(k:Int)<(s.size:Int):=aG;clear l;by_cases R:s[k].toNat =46
   ·refine ycD ?_;intro HN;have f:(s[k].toNat :Int)=46:=aG;exact ya4
   by_cases Q:s[k].toNat =95
   ·refine ycD ?_;intro HN;have f:(s[k].toNat :Int)=95:=aG;exact ya4
   by_cases P:48<=s[k].toNat /\s[k].toNat <=57
   ·refine ycD ?_;intro HN;have f:(48:Int)<=(s[k].toNat :Int):=aG;have v:(s[k].toNat :Int)<=57:=aG;exact ya4
   by_cases O:65<=s[k].toNat /\s[k].toNat <=90
   ·refine ycD ?_;intro HN;have f:(65:Int)<=(s[k].toNat :Int):=aG;have v:(s[k].toNat :Int)<=90:=aG;exact ya4
   by_cases N:s[k].toNat <48
   ·have HN:=aL (show r=false from eQ (by rw[pM];simp;omega));have f:(s[k].toNat :Int)<48:=aG;exact yeN
   by_cases M:s[k].toNat <65
   ·have HN:=aL (show r=false from eQ (by rw[pM];simp;omega));have f:(s[k].toNat :Int)<65:=aG;have v:(57:Int)<(s[k].toNat :Int):=aG;exact yeN
   have L:90<s[k].toNat :=aG
   ·have HN:=aL (show r=false from eQ (by rw[pM];simp;omega));have f:(90:Int)<(s[k].toNat :Int):=aG;exact yeN
  ·have F:k=s.size:=aG
   have J:=aL (show r=true by
    have h:=hs.out;rw[F,<-B.out,zD] at h
    rw[A.out,h])
   have C: ¬ (k:Int)<(s.size:Int):=aG;clear hs;go_wp2
   go_ret
   exact Ret0.of (by rw[J.out];rfl)
end Go.Proofs.YtilbpmimoijfhaaGreatDoor
