/- Products of binary64 in the program, of two numbers that are neither too small nor too great. -/
import Derived.Test.YtilbpmimoijfhaaGreatDoorY19
namespace Go.Proofs.YtilbpmimoijfhaaGreatDoor
set_option linter.all false
set_option maxRecDepth 100000
set_option maxHeartbeats 16000000
open Go.RowKit Go.Proofs.Tryz
section
def yqC (w:World):(Instr.index 314 (.agg #[.int .i64 0,.int .i64 1,.int .i64 1,.int .i64 2,.int .i64 3]) (.int .i64 2)).run prog w= .ok (.int .i64 1) w:=cI
attribute [local go_sem] yqC
def yhi (x:Nat) (w:World) (hx:x<18446744073709551616) (b:Fl.kind x=2):Calls prog 276 #[.int .u64 x] w (RetB (.int .i64 1) w):=by
 have h:=fun a=>yam x hx a;rw[b] at h;have H:=aL (fun a=>(h a:Calls prog 106 #[.int .u64 x] a (Ret0 (.int .i64 2) a)));clear h b;go_enter func276,ntmps276
 go_wp2_with (go_at_call 106;refine cY (H.out _) ?_)
 go_ret
 exact qO
def ysR (x y:Nat) (w:World) (hx:x<18446744073709551616) (i:Fl.kind x=2) (o:y<18446744073709551616) (hj:Fl.kind y=2):Calls prog 257 #[.int .u64 x,.int .u64 y] w (RetB (.int .i64 0) w):=by
 have H:=aL (fun b=>yhi x b hx i);have J:=aL (fun b=>yhi y b o hj);clear i hj;go_enter func257,ntmps257
 go_upto_region 2 with (fail)
 have q: ∀ w0:World,w0=w0:=fun _=>rfl;obtain⟨X,a⟩:=bx (w.alloc (Obj.cells #[Value.int IntKind.i64 6,Value.int IntKind.i64 6,Value.int IntKind.i64 1,Value.int IntKind.i64 1,Value.int IntKind.i64 6,Value.int IntKind.i64 0,Value.int IntKind.i64 5,Value.int IntKind.i64 1,Value.int IntKind.i64 1,Value.int IntKind.i64 5,Value.int IntKind.i64 5,Value.int IntKind.i64 1,Value.int IntKind.i64 1,Value.int IntKind.i64 1,Value.int IntKind.i64 1,Value.int IntKind.i64 1] 300));have m:X.cell? ⟨w.heap.size,5,none⟩=some (.int .i64 0):=by rw[a];simp[go_sem]
 have e:Below w.heap.size w X:=by rw[a];exact ek
 have l:w.heap.size<X.heap.size:=by rw[a];simp
 rw[<-a];clear a q;have bl:=e.size;obtain⟨g,hg⟩:=bx (w.heap.size);rw[<-hg] at m l;rw[<-hg];have P:=aL hg;clear hg;have d:=aL e;clear e
 go_region_held3 (fun w'=>w'.cell? ⟨g,5,none⟩=some (.int .i64 0)) (first|go_keep|((first|(rw[t];assumption)|(rw[r];assumption)))|(first|(go_simp;done)|(simp[go_sem, *];done)))
  (first|(go_at_call 276;refine cp (H.out _) ?_;intro b j;obtain⟨f,z,v,u⟩:=g9 (X) j;(try simp only[fO,gz,fY,gt] at u);obtain⟨E,B,C,D,t,A⟩:=own6 j (g))|(go_at_call 276;refine cp (J.out _) ?_;intro n k;obtain⟨c,F,G,s⟩:=g9 (X) k;(try simp only[fO,gz,fY,gt] at s);obtain⟨N,K,L,M,r,I⟩:=own6 k (g)))
 all_goals(try go_wp2)
 all_goals(
  have O:Below w.heap.size w n:=by first|exact d.out.trans (ycz (f.trans (c.mono f.size)) bl)|exact d.out.trans (ycz (c.trans (f.mono c.size)) bl)|exact d.out.trans (ycz c bl)
  go_ret
  exact RetB.of rfl dt)
def yiB (x y:Nat) (w:World) (hx:x<9218868437227405312) (m:Fl.kind x=2) (J:y<9218868437227405312) (hj:Fl.kind y=2):
 Calls prog 226 #[.int .u64 x,.int .u64 y] w (RetB (.int .u64 ((Fl.rd (Fl.mant x*Fl.mant y) (Fl.expn x+Fl.expn y) false:Nat):Int)) w):=by
 have H1:=aL (fun w1=>ysR x y w1 aG m aG hj);have i:=fun w1=>ydH x aG w1;have g:=fun w1=>ydH y aG w1;have r:=Fl.KU x;have hb2:=Fl.KU y;have u:=Fl.VS x;have t:=Fl.VS y;rw[show Fl.neg x=false from eL aG] at i;rw[show Fl.neg y=false from eL aG] at g;obtain⟨A,e⟩:=bx (Fl.mant x);obtain⟨B,d⟩: ∃ A,A=Fl.mant y:=⟨_,rfl⟩;obtain⟨C,c⟩: ∃ A,A=Fl.expn x:=⟨_,rfl⟩;obtain⟨D,b⟩: ∃ A,A=Fl.expn y:=⟨_,rfl⟩;rw[<-e,<-c] at i;rw[<-d,<-b] at g;rw[<-c] at r;rw[<-b] at hb2;rw[<-e] at u;rw[<-d] at t;rw[<-e,<-d,<-c,<-b];have f:=fun w1=>ydb A B w1 aG aG;have n: -10000<=C+D/\C+D<=2000:=aG
 have l:A*B<340282366920938463463374607431768211456:=by have:=Xf (show A<=18446744073709551615 by omega) (show B<=18446744073709551615 by omega);omega
 obtain⟨P,q⟩:=bx (A*B);rw[<-q] at f l ⊢;have a:=fun w1=>ycT false (P / 18446744073709551616) (P % 18446744073709551616) (C+D) false w1 aG aG n;rw[show P / 18446744073709551616*18446744073709551616+P % 18446744073709551616=P by omega,show Fl.sgn false=0 from rfl,iR] at a;obtain⟨U,hU⟩:=bx (P / 18446744073709551616);obtain⟨V,hV⟩: ∃ U,U=P % 18446744073709551616:=⟨_,rfl⟩;rw[<-hU,<-hV] at f a;obtain⟨R,o⟩:=bx (Fl.rd P (C+D) false);rw[<-o] at a ⊢;obtain⟨E,j⟩:=bx (C+D);rw[<-j] at a;have v:C+D=E:=j.symm;obtain⟨H,G,F,z⟩:=jv i g f a;have s:(x:Int) / 9223372036854775808=0:=aG;have y63:(y:Int) / 9223372036854775808=0:=aG;obtain⟨c1,c2⟩:=r;obtain⟨O,N⟩:=hb2;clear i g f a e d c b q hU hV o j m hj l n;go_enter func226,ntmps226
 go_wp2_with (first|(go_at_call 257;refine Ls ?_;refine wv ?_;intro w1 ab ao ay az af)|(go_at_call 138;refine cY (H.out _) ?_)|(go_at_call 138;refine cY (G.out _) ?_)|(go_at_call 258;refine cp (F.out _) ?_;refine wv ?_;intro I W Z X Y T)|(go_at_call 255;refine cp (z.out _) ?_;refine wv ?_;intro w3 S M K L Q))
 go_ret
 exact qO
end
end Go.Proofs.YtilbpmimoijfhaaGreatDoor
