/- A text that is no reference is refused by the program. -/
import Derived.Test.YtilbpmimoijfhaaGreatDoorY2
namespace Go.Proofs.YtilbpmimoijfhaaGreatDoor
set_option linter.all false
set_option maxRecDepth 100000
set_option maxHeartbeats 16000000
open Go.RowKit Go.Proofs.Tryz
def yeJ (q:Ce.Rf × Int):Value:= .tuple #[rv q.1,.int .i64 q.2]
structure Pieces (s A N B C R D:ByteArray) (ac ar:Bool):Prop where
 a:A.data.toList=Lib.trimPrefix s.data.toList [36]
 ac:ac=Lib.hasPrefix s.data.toList [36]
 n:N.data.toList=A.data.toList.takeWhile Ce.gI
 b:B.data.toList=A.data.toList.dropWhile Ce.gI
 c:C.data.toList=Lib.trimPrefix B.data.toList [36]
 ar:ar=Lib.hasPrefix B.data.toList [36]
 r:R.data.toList=C.data.toList.takeWhile Dc.cu
 d:D.data.toList=C.data.toList.dropWhile Dc.cu
def yva (s:ByteArray): ∃ A N B C R D ac ar,Pieces s A N B C R D ac ar:=
 ⟨⟨(Lib.trimPrefix s.data.toList [36]).toArray⟩,⟨((Lib.trimPrefix s.data.toList [36]).takeWhile Ce.gI).toArray⟩,⟨((Lib.trimPrefix s.data.toList [36]).dropWhile Ce.gI).toArray⟩,
  ⟨(Lib.trimPrefix ((Lib.trimPrefix s.data.toList [36]).dropWhile Ce.gI) [36]).toArray⟩,⟨((Lib.trimPrefix ((Lib.trimPrefix s.data.toList [36]).dropWhile Ce.gI) [36]).takeWhile Dc.cu).toArray⟩,
  ⟨((Lib.trimPrefix ((Lib.trimPrefix s.data.toList [36]).dropWhile Ce.gI) [36]).dropWhile Dc.cu).toArray⟩,_,_,
  {a:=by simp,ac:=rfl,n:=by simp,b:=by simp,c:=by simp,ar:=rfl,r:=by simp,d:=by simp}⟩
def Pieces.parse {s A N B C R D:ByteArray} {ac ar:Bool} (h:Pieces s A N B C R D ac ar):
 Ce.parse s.data.toList=if D.data.toList≠[]∨N.data.toList=[]∨3<N.size∨R.data.toList=[]∨7<R.size∨R.data.toList[0]? =some 48 then(Ce.zero,3) else
  if Ce.right ⟨Ce.pA N.data.toList-1,Dc.jQ R.data.toList-1,ac,ar⟩ then(⟨Ce.pA N.data.toList-1,Dc.jQ R.data.toList-1,ac,ar⟩,0) else(Ce.zero,14):=by
 unfold Ce.parse;simp only[];rw[<-h.a,<-h.n,<-h.b,<-h.c,<-h.r,<-h.d,<-h.ac,<-h.ar,dN,dN]
def yjb (l p:List UInt8):(Lib.trimPrefix l p).length <=l.length:=Dc.ytH l p
def yhp (p:UInt8->Bool) (l:List UInt8):(l.takeWhile p).length <=l.length/\(l.dropWhile p).length <=l.length:=by have h:=dZ List.length (sI (p:=p) (l:=l));rw[j2] at h;omega
def Pieces.sizes {s A N B C R D:ByteArray} {ac ar:Bool} (h:Pieces s A N B C R D ac ar):A.size<=s.size/\N.size<=s.size/\B.size<=s.size/\C.size<=s.size/\R.size<=s.size/\D.size<=s.size:=by have p:=dZ List.length h.a;have o:=dZ List.length h.n;have m:=dZ List.length h.b;have l:=dZ List.length h.c;have k:=dZ List.length h.r;have j:=dZ List.length h.d;simp only[dN] at p o m l k j;have i:=yjb s.data.toList [36];have g:=yhp Ce.gI A.data.toList;have f:=yjb B.data.toList [36];have e:=yhp Dc.cu C.data.toList;simp only[dN] at i g f e;omega
def Cuts (s A N B C R D:ByteArray) (ac ar:Bool):Prop:=
 (∀ w,Calls prog 60 #[.string s,.string ⟨#[36]⟩] w (Ret0 (.tuple #[.string A,.bool ac]) w))/\(∀ w,Calls prog 246 #[.string A,.func (.func 247) #[] #[]] w (RetB (.tuple #[.string N,.string B]) w))/\
 (∀ w,Calls prog 60 #[.string B,.string ⟨#[36]⟩] w (Ret0 (.tuple #[.string C,.bool ar]) w))/\(∀ w,Calls prog 246 #[.string C,.func (.func 248) #[] #[]] w (RetB (.tuple #[.string R,.string D]) w))
def cutp (s A:ByteArray) (ac:Bool) (b:A.data.toList=Lib.trimPrefix s.data.toList [36]) (a:ac=Lib.hasPrefix s.data.toList [36]) (w:World):Calls prog 60 #[.string s,.string ⟨#[36]⟩] w (Ret0 (.tuple #[.string A,.bool ac]) w):=
 (strings_CutPrefix s ⟨#[36]⟩ w).mono fun e w' ⟨d,c⟩=>⟨by rw[d,a,<-I2 A,b],c.symm⟩
def Pieces.cuts {s A N B C R D:ByteArray} {ac ar:Bool} (h:Pieces s A N B C R D ac ar) (e:s.size<=9223372036854775807):Cuts s A N B C R D ac ar:=by
 have hz:=h.sizes;refine⟨fun w=>cutp s A ac h.a h.ac w,fun w=>?_,fun w=>cutp B C ar h.c h.ar w,fun w=>?_⟩
 ·have:=ypQ A w aG;rw[<-h.n,<-h.b,I2,I2] at this;exact this
 ·have:=ypp C w aG;rw[<-h.r,<-h.d,I2,I2] at this;exact this
def yrj (s A N B C R D:ByteArray) (ac ar:Bool) (w:World) (e:Cuts s A N B C R D ac ar) (f:0<D.size):
 Calls prog 210 #[.string s] w (RetB (.tuple #[.agg #[.int .i64 0,.int .i64 0,.bool false,.bool false],.int .i64 3]) w):=by
 obtain⟨d,c,b,a⟩:=e;obtain⟨H1,H2,H3,H4⟩:=jv d c b a;have g:=oj f;clear d c b a;exact Oi
def yt6 (s A N B C R D:ByteArray) (ac ar:Bool) (w:World) (g:Cuts s A N B C R D ac ar) (b:D.size=0) (a:N.size=0):
 Calls prog 210 #[.string s] w (RetB (.tuple #[.agg #[.int .i64 0,.int .i64 0,.bool false,.bool false],.int .i64 3]) w):=by
 obtain⟨f,e,d,c⟩:=g;obtain⟨H1,H2,H3,H4⟩:=jv f e d c;have j:=pB b;have i:=pB a;clear f e d c b a;exact Oi
def yrO (s A N B C R D:ByteArray) (ac ar:Bool) (w:World) (f:Cuts s A N B C R D ac ar) (a:D.size=0) (g:3<N.size):
 Calls prog 210 #[.string s] w (RetB (.tuple #[.agg #[.int .i64 0,.int .i64 0,.bool false,.bool false],.int .i64 3]) w):=by
 obtain⟨e,d,c,b⟩:=f;obtain⟨H1,H2,H3,H4⟩:=jv e d c b;have j:=pB a;have i:=oj (s:=N) aG;clear e d c b a;exact Oi
def yny (s A N B C R D:ByteArray) (ac ar:Bool) (w:World) (g:Cuts s A N B C R D ac ar) (b:D.size=0) (i:0<N.size) (j:N.size<=3) (a:R.size=0):
 Calls prog 210 #[.string s] w (RetB (.tuple #[.agg #[.int .i64 0,.int .i64 0,.bool false,.bool false],.int .i64 3]) w):=by
 obtain⟨f,e,d,c⟩:=g;obtain⟨H1,H2,H3,H4⟩:=jv f e d c;have m:=pB b;have l:=oj i;have k:=pB a;clear f e d c b a;exact Oi
def yvD (s A N B C R D:ByteArray) (ac ar:Bool) (w:World) (f:Cuts s A N B C R D ac ar) (a:D.size=0) (g:0<N.size) (i:N.size<=3) (j:7<R.size):
 Calls prog 210 #[.string s] w (RetB (.tuple #[.agg #[.int .i64 0,.int .i64 0,.bool false,.bool false],.int .i64 3]) w):=by
 obtain⟨e,d,c,b⟩:=f;obtain⟨H1,H2,H3,H4⟩:=jv e d c b;have m:=pB a;have l:=oj g;have k:=oj (s:=R) aG;clear e d c b a;exact Oi
def ynV (s A N B C R D:ByteArray) (ac ar:Bool) (w:World) (f:Cuts s A N B C R D ac ar) (a:D.size=0) (i:0<N.size) (j:N.size<=3) (g:0<R.size) (n:R.size<=7) (o:(R[0].toNat :Int)=48):
 Calls prog 210 #[.string s] w (RetB (.tuple #[.agg #[.int .i64 0,.int .i64 0,.bool false,.bool false],.int .i64 3]) w):=by
 obtain⟨e,d,c,b⟩:=f;obtain⟨H1,H2,H3,H4⟩:=jv e d c b;have m:=pB a;have l:=oj i;have k:=oj g;clear e d c b a;exact Oi
end Go.Proofs.YtilbpmimoijfhaaGreatDoor
