/- Ints of 128 and 192 bits: their lengths, shifts, sums and products. -/
import Derived.Test.YtilbpmimoijfhaaGreatDoorY2
namespace Go.Proofs.YtilbpmimoijfhaaGreatDoor
set_option linter.all false
set_option maxRecDepth 100000
set_option maxHeartbeats 16000000
open Go.RowKit Go.Proofs.Tryz
def ye3 (x y c:Nat) (a:c<=1) (w:World):
 (callFunc 280 #[.int .u64 x,.int .u64 y,.int .u64 c]).run prog w= .ok (.value (.tuple #[.int .u64 (((x+y+c) % 18446744073709551616:Nat):Int),.int .u64 (((x+y+c) / 18446744073709551616:Nat):Int)])) w:=by
 rw[run_callFunc_extern func280 cI cI cI (e:=add64Entry) cI,run_add64 x y c aG aG aG aG];simp only[Result.andThen];congr 5<;>omega
def Fl.yby (x n:Nat):IntKind.u64.wrap ((x:Int)*2^n)=((x*2^n % 18446744073709551616:Nat):Int):=by have e:((x:Int)*2^n)=((x*2^n:Nat):Int):=cn;rw[e,zA];obtain⟨X,a⟩:=bx (x*2^n);rw[<-a];omega
def Fl.ya9 (x n:Nat):(x:Int) / 2^n=((x / 2^n:Nat):Int):=by have e:((2:Int)^n)=((2^n:Nat):Int):=cn;rw[e];rfl
def Na.ygl (x:Nat) (hx:x<18446744073709551616):Lib.bitLen x=Na.bitLen x:=by
 by_cases h:x=0
 ·subst h;rfl
 ·rw[Na.ybN x h hx,Na.bitLen,bv h]
def ysO (hi lo:Nat) (w:World) (g:hi<18446744073709551616) (hl:lo<18446744073709551616):
 Calls prog 272 #[.agg #[.int .u64 hi,.int .u64 lo]] w (RetB (.int .i64 (Na.bitLen (hi*18446744073709551616+lo):Nat)) w):=by
 have d:=Na.ygl hi g;have c:=Na.ygl lo hl;have i:=yau hi 64 aG g;have b2:=yau lo 64 aG hl;obtain⟨x,hx⟩:=bx (Lib.bitLen hi);obtain⟨y,b⟩: ∃ x,x=Lib.bitLen lo:=⟨_,rfl⟩;have k:=fun w=>aL ((bits_Len64 (hi:Int) w aG aG).mono fun e w' a=>(⟨by rw[a.1,jJ,hx],a.2.symm⟩:Ret0 (.int .i64 (x:Nat)) w e w'));have j:=fun w=>aL ((bits_Len64 (lo:Int) w aG aG).mono fun e w' a=>(⟨by rw[a.1,jJ,b],a.2.symm⟩:Ret0 (.int .i64 (y:Nat)) w e w'));by_cases f:hi=0
 ·have e:=aL (show Na.bitLen (hi*18446744073709551616+lo)=y by rw[f,qo,iR,<-c,<-b]);subst f;clear d c i b2 hx b k;go_enter func272,ntmps272
  go_wp2_with (go_at_call 230;refine cY ((j _).out) ?_)
  exact ykY
 ·have e:=aL (show Na.bitLen (hi*18446744073709551616+lo)=64+x by rw[Fl.ynZ f hl,<-d,<-hx]);have hd:decide ((0:Int)<(hi:Int))=true:=fv aG;obtain⟨z,hz⟩:=bx (64+x);have l:z<=128:=aG;have m:(64:Int)+(x:Int)=(z:Int):=aG;rw[<-hz] at e;clear hz;clear d c i b2 hx b j;go_enter func272,ntmps272
  go_wp2_with (go_at_call 230;refine cY ((k _).out) ?_)
  exact ykY
def ydB (hi lo n:Nat) (w:World) (q:hi<18446744073709551616) (hl:lo<18446744073709551616) (hn:n<64):
 Calls prog 274 #[.agg #[.int .u64 hi,.int .u64 lo],.int .i64 n] w
  (RetB (.agg #[.int .u64 (((hi*18446744073709551616+lo)*2^n / 18446744073709551616 % 18446744073709551616:Nat):Int),.int .u64 (((hi*18446744073709551616+lo)*2^n % 18446744073709551616:Nat):Int)]) w):=by
 obtain⟨m,hm⟩: ∃ m:Nat,n+m=64:=⟨64-n,by omega⟩;obtain⟨i,g,f,a4,a5⟩:=Fl.yj4 (hi:=hi) (lo:=lo) hm hl;have b:=Fl.ygh i g f;have a:=aL (And.intro a4 a5);have x:(64:Int)-(n:Int)=(m:Int):=aG;have o:IntKind.u64.wrap ((hi:Int)*2^n)=((hi*2^n % 18446744073709551616:Nat):Int):=Fl.yby hi n;have l:IntKind.u64.wrap ((lo:Int)*2^n)=((lo*2^n % 18446744073709551616:Nat):Int):=Fl.yby lo n;have k:(lo:Int) / 2^m=((lo / 2^m:Nat):Int):=Fl.ya9 lo m;obtain⟨A,c⟩:=bx (hi*2^n % 18446744073709551616);obtain⟨L,d⟩: ∃ A,A=lo / 2^m:=⟨_,rfl⟩;obtain⟨D,j⟩: ∃ A,A=lo*2^n % 18446744073709551616:=⟨_,rfl⟩;rw[<-c] at o b a;rw[<-d] at k b a;rw[<-j] at l a;obtain⟨C,e⟩:=bx (A+L);rw[<-e] at b a;clear i g f a4 a5 c d j e;have t:(n:Int)<64:=aG;have r:decide (64<=(n:Int))=false:=eL aG;have u:(0:Int)<=(m:Int):=aG;have s:(0:Int)<=(n:Int):=aG;go_enter func274,ntmps274
 go_wp2
 go_region
 go_wp2
 (refine eB (v:= .agg #[.int .u64 (C:Nat),.int .u64 (D:Nat)]) (by(simp[results,results274,go_sem];done)) rfl (RetB.of (by rw[a.out.1,a.out.2]) dt))
def ygW (h m l:Nat) (w:World):Calls prog 263 #[.agg #[.int .u64 h,.int .u64 m,.int .u64 l]] w (RetB (.agg #[.int .u64 m,.int .u64 l]) w):=by
 go_enter func263,ntmps263
 go_wp2
 (refine eB (v:= .agg #[.int .u64 m,.int .u64 l]) (by(simp[results,results263,go_sem];done)) rfl (RetB.of rfl dt))
def ydb (x y:Nat) (w:World) (hx:x<18446744073709551616) (c:y<18446744073709551616):
 Calls prog 258 #[.int .u64 x,.int .u64 y] w (RetB (.agg #[.int .u64 ((x*y / 18446744073709551616:Nat):Int),.int .u64 ((x*y % 18446744073709551616:Nat):Int)]) w):=by
 have H:=fun w=>aL (bits_Mul64 x y hx c w);obtain⟨X,b⟩:=bx (x*y / 18446744073709551616);obtain⟨Y,a⟩: ∃ X,X=x*y % 18446744073709551616:=⟨_,rfl⟩;rw[<-b,<-a] at H ⊢;clear b a;go_enter func258,ntmps258
 go_wp2_with (go_at_call 186;refine cY ((H _).out) ?_)
 (refine eB (v:= .agg #[.int .u64 (X:Nat),.int .u64 (Y:Nat)]) (by(simp[results,results258,go_sem];done)) rfl (RetB.of rfl dt))
def ymu (a b c d:Nat) (w:World) (o:a<18446744073709551616) (hb:b<18446744073709551616) (n:c<18446744073709551616) (hd:d<18446744073709551616):
 Calls prog 262 #[.agg #[.int .u64 a,.int .u64 b],.agg #[.int .u64 c,.int .u64 d]] w
  (RetB (.tuple #[.agg #[.int .u64 (((a+c+(b+d) / 18446744073709551616) % 18446744073709551616:Nat):Int),.int .u64 (((b+d) % 18446744073709551616:Nat):Int)],.bool (decide (18446744073709551616<=a+c+(b+d) / 18446744073709551616))]) w):=by
 have f:=fun w=>ye3 b d 0 aG w;rw[ms] at f;have k:=fun w=>ye3 a c ((b+d) / 18446744073709551616) aG w;obtain⟨X,i⟩:=bx ((b+d) % 18446744073709551616);obtain⟨C,e⟩: ∃ X,X=(b+d) / 18446744073709551616:=⟨_,rfl⟩;rw[<-i,<-e] at f;rw[<-e] at k;obtain⟨Y,g⟩: ∃ X,X=(a+c+C) % 18446744073709551616:=⟨_,rfl⟩;obtain⟨E,j⟩: ∃ X,X=(a+c+C) / 18446744073709551616:=⟨_,rfl⟩;rw[<-g,<-j] at k;have l:=aL (show decide (18446744073709551616<=a+c+C)=decide ((0:Int)<(E:Int)) from by apply sd.2;omega);have m: ∀ w,(callFunc 280 #[.int .u64 b,.int .u64 d,.int .u64 0]).run prog w= .ok (.value (.tuple #[.int .u64 X,.int .u64 C])) w:=f;rw[<-i,<-e,<-g];clear i e g j f;go_enter func262,ntmps262
 go_wp2
 (refine eB (v:= .tuple #[.agg #[.int .u64 (Y:Nat),.int .u64 (X:Nat)],.bool (decide ((0:Int)<(E:Int)))]) (by(simp[results,results262,go_sem];done)) rfl (RetB.of (by rw[l.out]) dt))
def yme (hi lo b:Nat) (w:World) (hh:hi<18446744073709551616) (hl:lo<18446744073709551616) (hb:b<18446744073709551616):
 Calls prog 260 #[.agg #[.int .u64 hi,.int .u64 lo],.int .u64 b] w (fun e w'=> ∃ p m l:Nat,e= .returned (.agg #[.int .u64 p,.int .u64 m,.int .u64 l])/\p<18446744073709551616/\m<18446744073709551616/\l<18446744073709551616/\(hi*18446744073709551616+lo)*b=Fl.w3 p m l/\Below w.heap.size w w'):=by
 obtain⟨N,r⟩:=Fl.yvX hh hl hb;have h1:=fun f=>ydb lo b f hl hb;have h2:=fun f=>ydb hi b f hh hb;have y:=fun f=>ye3 (lo*b / 18446744073709551616) (hi*b % 18446744073709551616) 0 aG f;rw[ms] at y;obtain⟨P,O⟩:=bx (hi*b / 18446744073709551616);obtain⟨Q,x⟩: ∃ P,P=hi*b % 18446744073709551616:=⟨_,rfl⟩;obtain⟨R,t⟩: ∃ P,P=lo*b / 18446744073709551616:=⟨_,rfl⟩;obtain⟨S,hS⟩: ∃ P,P=lo*b % 18446744073709551616:=⟨_,rfl⟩;have EK:S<18446744073709551616:=aG;rw[<-O,<-x,<-t] at N;rw[<-O,<-x,<-t,<-hS] at r;rw[<-t,<-hS] at h1;rw[<-O,<-x] at h2;rw[<-x,<-t] at y;obtain⟨M,hM⟩: ∃ P,P=(R+Q) % 18446744073709551616:=⟨_,rfl⟩;obtain⟨C,U⟩: ∃ P,P=(R+Q) / 18446744073709551616:=⟨_,rfl⟩;have EP:M<18446744073709551616:=aG;rw[<-hM,<-U] at y;rw[<-U] at N;rw[<-hM,<-U] at r;have ES: ∀ w,(callFunc 280 #[.int .u64 R,.int .u64 Q,.int .u64 0]).run prog w= .ok (.value (.tuple #[.int .u64 M,.int .u64 C])) w:=y;obtain⟨T,hT⟩:=bx (P+C);have hTi:(P:Int)+(C:Int)=(T:Int):=aG;rw[<-hT] at N r;obtain⟨H1,o,HT⟩:=iJ h1 h2 r;clear h1 h2 y r O x t hS hM U hT;have L:C2 ((w.alloc (.cells #[.int .u64 hi,.int .u64 lo] 95)).alloc (.cells #[.int .u64 0,.int .u64 0,.int .u64 0] 284)) w.heap.size hi lo:=(C2.new w hi lo).alloc _
 have BR:C3 ((w.alloc (.cells #[.int .u64 hi,.int .u64 lo] 95)).alloc (.cells #[.int .u64 0,.int .u64 0,.int .u64 0] 284)) (w.heap.size+1) 0 0 0:=by have:=C3.new (w.alloc (.cells #[.int .u64 hi,.int .u64 lo] 95)) 0 0 0;rw[i7] at this;exact this
 have BB:Below w.heap.size w ((w.alloc (.cells #[.int .u64 hi,.int .u64 lo] 95)).alloc (.cells #[.int .u64 0,.int .u64 0,.int .u64 0] 284)):=((oA w.heap.size w).alloc cm _).alloc cn _;go_enter func260,ntmps260
 go_upto_region 1 with (fail)
 obtain⟨X,s⟩:=bx (((w.alloc (.cells #[.int .u64 hi,.int .u64 lo] 95)).alloc (.cells #[.int .u64 0,.int .u64 0,.int .u64 0] 284)));obtain⟨g,Oa⟩: ∃ b,b=w.heap.size:=⟨_,rfl⟩;obtain⟨k,z⟩: ∃ b,b=w.heap.size+1:=⟨_,rfl⟩;rw[<-s,<-Oa] at L;rw[<-s,<-z] at BR;rw[<-s] at BB;rw[<-s,<-z,<-Oa];have N8:w.heap.size<=k:=aG;clear s z Oa;have x0:=L.1.get 0 rfl;have x1:=L.1.get 1 rfl;obtain⟨uf,HBB⟩:=dY BR BB;have xl:=L.1.1;have rl:=BR.1.1;have bl:=BB.size;clear L BR BB;go_cut [5,6] (fun u v w'=> ∃ g5 g6:Nat,u= .pointer (some ⟨g5,0,none⟩)/\v= .pointer (some ⟨g6,0,none⟩)/\Hid (C2 w' g5 R S)/\Hid (C2 w' g6 P Q)/\Hid (C3 w' k 0 0 0)/\Hid (Below w.heap.size w w')/\Hid (w.heap.size<=k))
 case first=>
  have Bf:=ycR X _ x0;have M5:=ycR X _ x1
  go_region_held3 (fun w'=>w'.cell? ⟨g,0,none⟩=some (.int .u64 hi)/\w'.cell? ⟨g,1,none⟩=some (.int .u64 lo)) (first|go_keep|(refine⟨?_,?_⟩<;>(first|(rw[ag];assumption)|(rw[n];assumption)))|(refine⟨?_,?_⟩<;>(first|(go_simp;done)|(simp[go_sem, *];done))))
   (first|(first|(go_at_call 258;refine cp (H1.out _) ?_;intro f d;obtain⟨ao,ay,az,A⟩:=g9 (X) d;(try simp only[fO,gz,fY,gt] at A);have a:=own6 d (g);obtain⟨ai,am,al,aj,ag,ap⟩:=a;have a:=own6 d (X.heap.size);obtain⟨be,bh,bg,bf,aV,ci⟩:=a;have a:=own6 d (X.heap.size+1);obtain⟨jR,mi,mh,me,mc,mq⟩:=a)|(go_at_call 258;refine cp (H1.out _) ?_;intro f d;obtain⟨ao,ay,az,A⟩:=g9 (X) d;(try simp only[fO,gz,fY,gt] at A);have a:=own6 d (g);obtain⟨ai,am,al,aj,ag,ap⟩:=a;have a:=own6 d (X.heap.size);obtain⟨be,bh,bg,bf,aV,ci⟩:=a)|(go_at_call 258;refine cp (H1.out _) ?_;intro f d;obtain⟨ao,ay,az,A⟩:=g9 (X) d;(try simp only[fO,gz,fY,gt] at A);have a:=own6 d (g);obtain⟨ai,am,al,aj,ag,ap⟩:=a))|(first|(go_at_call 258;refine cp (o.out _) ?_;intro q c;obtain⟨G,D,E,i⟩:=g9 (X) c;(try simp only[fO,gz,fY,gt] at i);have a:=own6 c (g);obtain⟨K,H,I,J,n,F⟩:=a;have a:=own6 c (X.heap.size);obtain⟨bA,W,Z,bC,aZ,V⟩:=a;have a:=own6 c (X.heap.size+1);obtain⟨gG,gD,gB,gy,gm,gJ⟩:=a)|(go_at_call 258;refine cp (o.out _) ?_;intro q c;obtain⟨G,D,E,i⟩:=g9 (X) c;(try simp only[fO,gz,fY,gt] at i);have a:=own6 c (g);obtain⟨K,H,I,J,n,F⟩:=a;have a:=own6 c (X.heap.size);obtain⟨bA,W,Z,bC,aZ,V⟩:=a;have a:=own6 c (f.heap.size);obtain⟨gG,gD,gB,gy,gm,gJ⟩:=a)|(go_at_call 258;refine cp (o.out _) ?_;intro q c;obtain⟨G,D,E,i⟩:=g9 (X) c;(try simp only[fO,gz,fY,gt] at i);have a:=own6 c (g);obtain⟨K,H,I,J,n,F⟩:=a;have a:=own6 c (X.heap.size);obtain⟨bA,W,Z,bC,aZ,V⟩:=a)|(go_at_call 258;refine cp (o.out _) ?_;intro q c;obtain⟨G,D,E,i⟩:=g9 (X) c;(try simp only[fO,gz,fY,gt] at i);have a:=own6 c (g);obtain⟨K,H,I,J,n,F⟩:=a;have a:=own6 c (f.heap.size);obtain⟨bA,W,Z,bC,aZ,V⟩:=a;have a:=own6 c (f.heap.size+1);obtain⟨gG,gD,gB,gy,gm,gJ⟩:=a)|(go_at_call 258;refine cp (o.out _) ?_;intro q c;obtain⟨G,D,E,i⟩:=g9 (X) c;(try simp only[fO,gz,fY,gt] at i);have a:=own6 c (g);obtain⟨K,H,I,J,n,F⟩:=a;have a:=own6 c (f.heap.size);obtain⟨bA,W,Z,bC,aZ,V⟩:=a)|(go_at_call 258;refine cp (o.out _) ?_;intro q c;obtain⟨G,D,E,i⟩:=g9 (X) c;(try simp only[fO,gz,fY,gt] at i);have a:=own6 c (g);obtain⟨K,H,I,J,n,F⟩:=a)))
  all_goals(try go_wp2)
  all_goals go_meet
  all_goals(refine⟨_,_,rfl,rfl,aL ?_,aL ?_,aL ?_,aL ?_,aL N8⟩)
  all_goals(have et:=HBB.out;have qE:=uf.out)
  all_goals first
   |(with_reducible (refine et.trans (ycz (B:=X.heap.size) ?_ bl));(repeat(first|exact eN|assumption|refine vh ?_ mY _|refine vc ?_ mY _|refine vr ?_|refine oY ?_ _));done)
   |((repeat(with_reducible (first|assumption|refine C2.new' _ _ (by first|rfl|(simp only[fO,gz,fY,gt];done)|(simp only[fO,gz,fY,gt];omega))|refine C2.new0 (by first|rfl|(simp only[fO,gz,fY,gt];done)|(simp only[fO,gz,fY,gt];omega))|refine C2.setOther ?_ (by first|omega|(simp only[fO,gz,fY,gt];omega))|refine C2.ynG (h:=0) (l:=0) ?_ _ _|refine C2.drew ?_|refine C2.alloc ?_ _|refine C2.on ?_ d|refine C2.on ?_ c|refine C3.setOther ?_ (by first|omega|(simp only[fO,gz,fY,gt];omega))|refine C3.drew ?_|refine C3.alloc ?_ _|refine C3.on ?_ d|refine C3.on ?_ c)));done)
 case rest=>as_aux_lemma=>
  obtain⟨g5,g6,rfl,rfl,C5,C6,j,rF,z⟩:=hcut;have p0:=C5.out.1.get 0 rfl;have p1:=C5.out.1.get 1 rfl;have q0:=C6.out.1.get 0 rfl;have q1:=C6.out.1.get 1 rfl;have r0:=j.out.1.get 0 rfl;have r1:=j.out.1.get 1 rfl;have r2:=j.out.1.get 2 rfl;have f0:=j.out.2 0;have f1:=j.out.2 1;have f2:=j.out.2 2;have HS:=aL (j.out.stored T M S);have HX:=aL (mX (b:=k) z.out [.int .u64 (T:Int),.int .u64 (M:Int),.int .u64 (S:Int)] 0 rF.out);go_wp2_with fail
  obtain⟨Y,hY⟩:=bx (wc.setCells k 0 [.int .u64 (T:Int),.int .u64 (M:Int),.int .u64 (S:Int)]);change bodyPost _ _ _ _ _ (wc.setCells k 0 [.int .u64 (T:Int),.int .u64 (M:Int),.int .u64 (S:Int)]);rw[<-hY] at HS HX ⊢;have y0:=HS.out.1.get 0 rfl;have y1:=HS.out.1.get 1 rfl;have y2:=HS.out.1.get 2 rfl;clear hY;refine eB (v:= .agg #[.int .u64 (T:Nat),.int .u64 (M:Nat),.int .u64 (S:Nat)]) (by(simp[results,results260,go_sem,y0,y1,y2];done)) rfl ?_;exact⟨T,M,S,rfl,N,EP,EK,HT.out,HX.out⟩
end Go.Proofs.YtilbpmimoijfhaaGreatDoor
