/- Plain Lean: naturals as lists of limbs. -/
import Derived.Test.YtilbpmimoijfhaaGreatDoorY1
namespace Go.Proofs.YtilbpmimoijfhaaGreatDoor
set_option linter.all false
set_option maxRecDepth 100000
set_option maxHeartbeats 16000000
open Go.RowKit Go.Proofs.Tryz
namespace Na
abbrev B:Nat:=4294967296
def val:List Nat->Nat
 | []=>0
 |x::l=>x+B*val l
def cl (n:Nat):List Nat:=if h:n=0 then[] else(n % B)::cl (n / B)
termination_by n
decreasing_by exact ybA aG bL
def rY:cl 0=[]:=by rw[cl];rfl
def DC {n:Nat} (h:n≠0):cl n=(n % B)::cl (n / B):=by rw[cl,EF h]
def nK (n:Nat):val (cl n)=n:=by
 induction n using Nat.strongRecOn with
 | _ n a=>
   by_cases h:n=0
   ·subst h;rw[rY];rfl
   ·rw[DC h,val,a _ (ybA aG bL)];exact Nat.mod_add_div n B
def yfB (n:Nat): ∀ x ∈ cl n,x<B:=by
 induction n using Nat.strongRecOn with
 | _ n a=>
   by_cases h:n=0
   ·subst h;rw[rY];intro x hx;cases hx
   ·rw[DC h]
    intro x hx
    rcases sC.1 hx with rfl|hx
    ·exact kk _ bL
    ·exact a _ (ybA aG bL) x hx
def Ie {n:Nat}:cl n=[]↔n=0:=by
 by_cases h:n=0
 ·subst h;simp[rY]
 ·rw[DC h];simp[h]
def Uh (a b:List Nat):val (a++b)=val a+B^a.length*val b:=by
 induction a with
 |nil=>simp[val]
 |cons x a c=>simp only[lB,val,c,gE,jM,lW];rw[fM (B^a.length) B,fB];omega
def ydA (k:Nat):val (List.replicate k 0)=0:=by
 induction k with
 |zero=>rfl
 |succ k a=>simp[Wn,val,a]
def rf (a:List Nat) (h: ∀ x ∈ a,x<B):val a<B^a.length:=by
 induction a with
 |nil=>simp[val]
 |cons x a b=>
  have e:=h x (KY)
  have d:=b (fun y c=>h y (U6 _ c))
  simp only[val,gE,jM]
  rw[fM (B^a.length) B]
  have:B*val a+B<=B*B^a.length:=by rw[<-Nat.mul_succ];exact nS _ d
  omega
def ra (a:List Nat) (i:Nat) (h:i<a.length):val (a.take (i+1))=val (a.take i)+B^i*a[i]:=by rw[yh h,Uh];simp[val,rD (lY h)]
def wW (a:List Nat) (i:Nat) (h:i<=a.length):val a=val (a.take i)+B^i*val (a.drop i):=by
 conv=>lhs;rw[<-List.take_append_drop i a]
 rw[Uh];simp[rD h]
def ylL (a:List Nat) (b:a≠[]) (hl:a.getLast b≠0):B^(a.length-1)<=val a:=by have h:=yaE b;rw[<-h,Uh];simp only[j2,gE,rp,val];have:B^a.dropLast.length*1<=B^a.dropLast.length*(a.getLast b+B*0):=nS _ aG;simp only[iR,va] at this ⊢;omega
def ytD (a:List Nat) (h: ∀ x ∈ a,x<B) (hl: ∀ b:a≠[],a.getLast b≠0):cl (val a)=a:=by
 induction a with
 |nil=>simp[val,rY]
 |cons x a d=>
  have c:=h x (KY)
  have b:val (x::a)≠0:=by intro e;have:=ylL (x::a) cn (hl cn);have:=Wr ((x::a).length -1) B bL;omega
  rw[DC b]
  have i:val (x::a) % B=x:=by simp only[val];rw[E5];exact o0 c
  have g:val (x::a) / B=val a:=by simp only[val];rw[KM _ _ bL];rw[t6 c];omega
  rw[i,g,d (fun y f=>h y (U6 _ f)) (fun hn=>by have:=hl cn;rwa[List.getLast_cons hn] at this)]
def yoU (a:List Nat) (h: ∀ x ∈ a,x<B) (k:Nat) (c:k<=a.length) (hz: ∀ i (hi:i<a.length),k<=i->a[i]=0) (hl: ∀ b:0<k,a[k-1]≠0):cl (val a)=a.take k:=by
 have hd:val (a.drop k)=0:=by
  have:a.drop k=List.replicate (a.length-k) 0:=by
   apply List.ext_getElem
   ·simp
   ·intro i d g;simp only[Nk,List.getElem_replicate];exact hz _ (by simp at d;omega) aG
  rw[this,ydA]
 rw[wW a k c,hd,sr,ms];refine ytD _ (fun x hx=>h x (yaj hx)) (fun f=>?_)
 have b:0<k:=by
  rcases ty k with rfl|e
  ·simp at f
  ·exact e
 rw[yfN];simp only[ydz,nn,rD c];exact hl b
def F1 (n k:Nat) (h:n<B^k):(cl n).length <=k:=by
 induction k generalizing n with
 |zero=>
  have:n=0:=nu
  subst this;simp[rY]
 |succ k b=>
  by_cases a:n=0
  ·subst a;simp[rY]
  ·rw[DC a,gE]
   have:n / B<B^k:=by rw[wm bL,<-Nat.pow_succ];exact h
   have:=b _ this
   omega
def yaX (n k:Nat) (h:B^k<=n):k<(cl n).length :=by
 have b:=rf (cl n) (yfB n);rw[nK] at b;rcases qt k (cl n).length with a|a
 ·exact a
 ·have:=hJ (n:=B) bL a;omega
def Da (n k:Nat):(cl n).length <=k↔n<B^k:=
 ⟨fun h=>by rcases qt n (B^k) with a|a;exact a;have:=yaX n k a;omega,F1 n k⟩
def yfe (n:Nat) (f:cl n≠[]):(cl n).getLast f≠0:=by
 induction n using Nat.strongRecOn with
 | _ n g=>
   have c:n≠0:=fun e=>f (Ie.2 e)
   by_cases b:n / B=0
   ·have e:cl n=[n % B]:=by rw[DC c,Ie.2 b]
    have:n<B:=(Nat.div_eq_zero_iff_lt bL).1 b
    simp only[e,List.getLast_singleton]
    rw[o0 this];exact c
   ·have d:cl (n / B)≠[]:=fun e=>b (Ie.1 e)
    have e:cl n=(n % B)::cl (n / B):=DC c
    have:=g (n / B) (ybA aG bL) d
    rw[<-List.getLast_cons (a:=n % B) d] at this
    simpa only[e] using this
end Na

namespace Na
def OK (a:List Nat):Prop:= ∀ x ∈ a,x<B
def cut (a:List Nat):List Nat:=cl (val a)
def rt (a:List Nat):Nat:=(cut a).length
def Au {a:List Nat} (h:OK a) (k:Nat):OK (a.take k):=fun x hx=>h x (yaj hx)
def yfa {a:List Nat} (h:OK a) (k:Nat):OK (a.drop k):=fun x hx=>h x (LK hx)
def zh (n:Nat):OK (cl n):=yfB n
def yr1 (a:List Nat) (h:OK a): ∃ k,k<=a.length/\(∀ i (hi:i<a.length),k<=i->a[i]=0)/\(∀ b:0<k,∀ c:k-1<a.length,a[k-1]≠0):=by
 induction a with
 |nil=>exact⟨0,iH _,fun i hi=>absurd hi cn,fun b=>absurd b aG⟩
 |cons x a d=>
  obtain⟨k,l,c,f⟩:=d (fun y e=>h y (U6 _ e))
  by_cases b:k=0
  ·subst b
   by_cases hx:x=0
   ·refine⟨0,iH _,fun i hi _=>?_,fun b=>absurd b aG⟩
    cases i with
    |zero=>exact hx
    |succ i=>simpa using c i Ig (iH _)
   ·refine⟨1,by simp,fun i hi g=>?_,fun _ _=>by simpa using hx⟩
    cases i with
    |zero=>omega
    |succ i=>simpa using c i Ig (iH _)
  ·refine⟨k+1,by simp;omega,fun i hi g=>?_,fun _ j=>?_⟩
   ·cases i with
    |zero=>omega
    |succ i=>simpa using c i Ig aG
   ·have:k+1-1=(k-1)+1:=aG
    simp only[this,Np]
    exact f aG aG
def yda {a:List Nat} (h:OK a) {k:Nat} (b:k<=a.length) (hz: ∀ i (hi:i<a.length),k<=i->a[i]=0) (hl: ∀ d:0<k,∀ f:k-1<a.length,a[k-1]≠0):rt a=k/\cut a=a.take k:=by have e:cut a=a.take k:=yoU a h k b hz (fun c=>hl c aG);exact⟨by rw[rt,e,nn,rD b],e⟩
def yC {a:List Nat} (h:OK a):rt a<=a.length/\cut a=a.take (rt a):=by obtain⟨k,b,d,c⟩:=yr1 a h;obtain⟨f,e⟩:=yda h b d c;rw[f];exact⟨b,e⟩
def tA {a:List Nat}:val (cut a)=val a:=nK _
def ypR (a:List Nat):cut (cut a)=cut a:=by rw[cut,tA];rfl
def yw9 (n:Nat):cut (cl n)=cl n:=by rw[cut,nK]
def PU (n:Nat):rt (cl n)=(cl n).length :=by rw[rt,yw9]
def X0 (a:List Nat):OK (cut a):=yfB _
def ywV (a:List Nat):rt (cut a)=rt a:=by rw[rt,ypR];rfl
def wd (a:List Nat):cut a=[]↔val a=0:=Ie
def big (a:List Nat):Bool:=decide (256<rt a)
def fits (n:Nat):List Nat × Int:=if 256<(cl n).length then([],2) else(cl n,0)
def bitLen (n:Nat):Nat:=if n=0 then 0 else Nat.log2 n+1
def cmp (a b:List Nat):Int:=if val a<val b then -1 else if val b<val a then 1 else 0
def add (a b:List Nat):List Nat × Int:=if big a || big b then([],2) else fits (val a+val b)
def mul (a b:List Nat):List Nat × Int:=if big a || big b then([],2) else fits (val a*val b)
def sW (a b:List Nat):List Nat × List Nat × Int:=if big a || big b then([],[],2) else if val b=0 then([],[],10) else(cl (val a / val b),cl (val a % val b),0)
def shl (a:List Nat) (n:Int):List Nat × Int:=if n<0 then([],1) else if big a then([],2) else if val a=0 then([],0) else if 8192<n∨8192<(bitLen (val a):Int)+n then([],2) else(cl (val a*2^n.toNat),0)
def shr (a:List Nat) (n:Int):List Nat × Bool × Int:=if n<0 then([],false,1) else if big a then([],false,2) else(cl (val a / 2^n.toNat),decide (val a % 2^n.toNat≠0),0)
def pow (b n:Int):List Nat × Int:=if b<0∨1000000<b∨n<0 then([],1) else if b=0/\0<n then([],0) else fits (b.toNat^n.toNat)
def yvC {a:List Nat} (h:OK a):val a<B^rt a:=by have:=rf (cut a) (X0 a);rw[tA] at this;exact this
def ynu {a:List Nat} (h:OK a) (b:0<rt a):B^(rt a-1)<=val a:=by
 have c:cut a≠[]:=by intro e;rw[rt,e] at b;simp at b
 have:=ylL (cut a) c (yfe _ c);rw[tA] at this;exact this
def yc5 {a b:List Nat} (c:OK a) (hb:OK b) (h:rt a<rt b):val a<val b:=by have f:=yvC c;have e:=ynu hb aG;have d:B^rt a<=B^(rt b-1):=hJ bL aG;omega
def ykM {a b:List Nat} (f:OK a) (hb:OK b) (hl:a.length=b.length) (k:Nat) (d:k<a.length) (c:k<b.length) (e:a.drop (k+1)=b.drop (k+1)) (i:a[k]<b[k]):val a<val b:=by
 rw[wW a (k+1) aG,wW b (k+1) aG,e,ra a k d,ra b k c]
 have j:val (a.take k)<B^k:=by have:=rf (a.take k) (Au f k);rwa[nn,rD aG] at this
 have g:B^k*(a[k]+1)<=B^k*b[k]:=nS _ i;rw[lW,oU] at g;omega
end Na

namespace Na
open Go
def wrap_u64 (n:Nat) (h:n<18446744073709551616):IntKind.u64.wrap (n:Int)=(n:Int):=by rw[zA];omega
def yfY (V x m:Nat) (a:V<2^m) (b:V+x*2^m<18446744073709551616):bits BinOp.or IntKind.u64 (V:Int) (IntKind.u64.wrap ((x:Int)*2^m))=((V+x*2^m:Nat):Int):=by have e:((x:Int)*2^m)=((x*2^m:Nat):Int):=cn;rw[e,wrap_u64 _ aG,Il _ _ aG aG];congr 1;have:=Yj a x;rw[Nat.or_comm,fM x,<-this];omega
def ypw (r m x:Nat) (d:r<2^m) (hx:x≠0):Nat.log2 (r+2^m*x)=m+Nat.log2 x:=by
 have c:0<2^m:=fp aG;have e:0<2^m*x:=xG c aG;rw[Nat.log2_eq_iff aG];constructor
 ·have:=nS (2^m) (Nat.log2_self_le hx);rw[lR];omega
 ·have b:x+1<=2^(Nat.log2 x+1):=ye8;have a:=nS (2^m) b;rw[lW,oU] at a;rw[show m+Nat.log2 x+1=m+(Nat.log2 x+1) by omega,lR];omega
def ybN (x:Nat):x≠0->x<2^64->Lib.bitLen x=Nat.log2 x+1:=by
 induction x using Nat.strongRecOn with
 | _ x a=>
   intro c h
   rw[Lib.bitLen_half x c h]
   by_cases b:x / 2=0
   ·have:x=1:=aG
    subst this;rfl
   ·rw[a (x / 2) aG b aG,Nat.log2_def x,bT aG];omega
def yqT (l q:List Nat) (hq:q=cut l) (n:Nat) (hn:q.length=n+1):bitLen (val l)=32*n+Lib.bitLen (q[n]'aG):=by
 have d:q≠[]:=by intro e;rw[e] at hn;simp at hn
 have hv:val q=val l:=by rw[hq,tA]
 have c:OK q:=by rw[hq];exact X0 l
 have hl:q[n]'aG≠0:=by have:=yfe (val l) (by show cut l≠[];rw[<-hq];exact d);rw[yfN] at this;have e:cl (val l)=q:=hq.symm;simp only[e] at this;simpa[hn] using this
 have a:=ra q n aG;rw[n0 aG,hv] at a;have b:=rf (q.take n) (Au c n);rw[nn,show min n q.length=n by omega,show B^n=2^(32*n) by rw[yc]] at b;have hx:=c _ (pK (show n<q.length by omega));rw[show B^n=2^(32*n) by rw[yc]] at a;have f:val l≠0:=fun e=>d (by rw[hq];exact(wd l).2 e);rw[bitLen,bv f,a,ypw _ _ _ b hl,ybN _ hl (xH hx bL)];omega
def yqy (a b:Nat) (e:a<4294967296) (hb:b<4294967296):bits .and .u32 (a:Int) (b:Int)=((a &&& b:Nat):Int)/\a &&& b<4294967296:=by
 have hx:a &&& b<2^32:=Nat.and_lt_two_pow _ aG
 have d:(BitVec.ofInt 32 (a:Int)).toNat =a:=by rw[BitVec.ofInt_natCast,BitVec.toNat_ofNat];exact o0 aG
 have c:(BitVec.ofInt 32 (b:Int)).toNat =b:=by rw[BitVec.ofInt_natCast,BitVec.toNat_ofNat];exact o0 aG
 refine⟨?_,by omega⟩;show IntKind.u32.wrap ((BitVec.ofInt 32 (a:Int) &&& BitVec.ofInt 32 (b:Int)).toNat :Int)=_;rw[BitVec.toNat_and,d,c,IntKind.wrap_u32];omega
def yjx (o:List Nat) (k v:Nat) (a:k<o.length):(o.set k v).take (k+1)=o.take k++[v]:=by rw[yh (by rw[yx];exact a),yfl,ycg cm]
def ER (o:List Nat) (k v:Nat) (a:k<o.length):val ((o.set k v).take (k+1))=val (o.take k)+B^k*v:=by rw[yjx o k v a,Uh,nn,show min k o.length=k by omega];simp[val]
def XK (Q:List Nat) (k:Nat) (h:Q.length<=k):val (Q.take (k+1))=val (Q.take k)+B^k*0:=by rw[n0 h,n0 aG];simp
def yfw (b s:Nat):b*(s % B)+b*B*(s / B)=b*s:=by rw[fB,<-Nat.mul_add,Nat.mod_add_div]
def L0 (o P Q:List Nat) (k x y a:Nat) (d:k<o.length) (c:val (o.take k)+B^k*a=val (P.take k)+val (Q.take k)) (f:val (P.take (k+1))=val (P.take k)+B^k*x)
 (e:val (Q.take (k+1))=val (Q.take k)+B^k*y):val ((o.set k ((x+y+a) % 4294967296)).take (k+1))+B^(k+1)*((x+y+a) / 4294967296)=val (P.take (k+1))+val (Q.take (k+1)):=by
 have b:=yfw (B^k) (x+y+a);rw[ER o k _ d,f,e,jM];rw[lW,lW] at b;simp only[B] at b c ⊢;omega
def UC (o:List Nat) (k v:Nat) (a:k<o.length) (h:OK (o.take k)) (hv:v<4294967296):OK ((o.set k v).take (k+1)):=by
 rw[yjx o k v a];intro x hx;rcases List.mem_append.1 hx with hx|hx
 ·exact h x hx
 ·rw[SY.1 hx];exact hv
end Na

namespace Na
open Go
def ys5 (o:List Nat) (j v:Nat): ∀ h:j<o.length,val (o.set j v)+B^j*o[j]=val o+B^j*v:=by
 induction o generalizing j with
 |nil=>intro h;simp at h
 |cons x o a=>
  intro h
  cases j with
  |zero=>simp[val];omega
  |succ j=>
   have hj:j<o.length:=nu
   have:=dZ (B * ·) (a j hj)
   simp only[lW,<-Nat.mul_assoc] at this
   simp only[List.set_cons_succ,val,Np,jM,fM (B^j) B]
   omega
def wa {o:List Nat} (h:OK o) (j v:Nat) (hv:v<4294967296):OK (o.set j v):=by
 intro x hx;rcases List.mem_or_eq_of_mem_set hx with hx|rfl
 ·exact h x hx
 ·exact hv
def yhE (o:List Nat) (N j v:Nat) (hj:j<N) (h:j<o.length):val ((o.set j v).take N)+B^j*o[j]=val (o.take N)+B^j*v:=by rw[List.take_set];have a:j<(o.take N).length :=ycF;have:=ys5 (o.take N) j v a;rw[ydz] at this;exact this
def ye1 (x y z c:Nat) (hx:x<4294967296) (a:y<4294967296) (hz:z<4294967296) (b:c<4294967296):x*y<=18446744065119617025/\x*y+z+c<18446744073709551616:=by have:=Xf (show x<=4294967295 by omega) (show y<=4294967295 by omega);omega
def yrg (o:List Nat) (N i j x y z c M rk d:Nat) (hj:i+j<N) (h:i+j<o.length) (hz:o[i+j]=z) (e:val (o.take N)+B^(i+j)*c=M+B^i*x*rk) (f:d=rk+B^j*y):
 val ((o.set (i+j) ((x*y+z+c) % 4294967296)).take N)+B^(i+j+1)*((x*y+z+c) / 4294967296)=M+B^i*x*d:=by
 have b:=yhE o N (i+j) ((x*y+z+c) % 4294967296) hj h;have a:=yfw (B^(i+j)) (x*y+z+c);rw[hz] at b
 have g:B^i*x*(B^j*y)=B^(i+j)*(x*y):=by rw[lR,fB,fB,vf x]
 rw[f,lW (B^i*x),g,jM];rw[lW,lW] at a;simp only[B] at b a e ⊢;omega
def yts (q r:List Nat) (i x:Nat) (h:val (q.take (i+1))=val (q.take i)+B^i*x):val (q.take i)*val r+B^i*x*val r=val (q.take (i+1))*val r:=by rw[h,iW]
end Na

namespace Na
open Go
def yq0 (N d:Nat) (o:List Nat) (n t r z:Nat) (f:t<n) (e:t<o.length) (hz:o[t]=z)
 (a:N+d*val (o.take (t+1))=val (o.take (t+1))+B^(t+1)*r+d*val (o.take n)):
 N+d*val ((o.set t ((r*4294967296+z) / d)).take t)=val ((o.set t ((r*4294967296+z) / d)).take t)+B^t*((r*4294967296+z) % d)+d*val ((o.set t ((r*4294967296+z) / d)).take n):=by
 have c:=yhE o n t ((r*4294967296+z) / d) f e;have b:=ra o t e;rw[hz] at c b;rw[ycg cm];have j:=dZ (d * ·) c;simp only[lW] at j
 have i:B^t*(d*((r*4294967296+z) / d))+B^t*((r*4294967296+z) % d)=B^t*(r*4294967296)+B^t*z:=by rw[<-Nat.mul_add,sz,lW]
 rw[b,lW,jM] at a;have h:B^t*(d*((r*4294967296+z) / d))=d*(B^t*((r*4294967296+z) / d)):=by rw[vf]
 have g:B^t*B*r=B^t*(r*4294967296):=by rw[fB,fM B r]
 rw[g] at a;rw[h] at i;omega
def ynL (N d V r:Nat) (a:r<d) (h:N=r+d*V):V=N / d/\r=N % d:=by subst h;rw[KM _ _ aG,E5,t6 a,o0 a];simp
def ybZ (r z:Nat) (a:r<4294967296) (hz:z<4294967296):bits BinOp.or IntKind.u64 ((r*4294967296:Nat):Int) (z:Int)=((r*4294967296+z:Nat):Int):=by rw[Il _ _ aG aG];congr 1;have:=Yj (show z<2^32 by omega) r;rw[fM (2^32)] at this;exact this.symm
def yq7 (r z d:Nat) (a:r<d) (hz:z<4294967296):(r*4294967296+z) / d<4294967296:=by rw[wm aG];have:=iS 4294967296 (show r+1<=d by omega);rw[fM 4294967296 d];omega
end Na

namespace Na
open Go
def ylA (c x s:Nat) (a:s<32) (b:c<2^s) (hx:x<4294967296):c+x*2^s<18446744073709551616/\(c+x*2^s) / 4294967296<2^s:=by
 have e:2^s<=2^31:=hJ bL aG
 have d:x*2^s+2^s<=4294967296*2^s:=by have:=iS (2^s) (show x+1<=4294967296 by omega);rwa[iW,nW] at this
 constructor
 ·omega
 ·rw[wm bL];omega
def drop_set (O:List Nat) (off k v:Nat):(O.set (off+k) v).drop off=(O.drop off).set k v:=by rw[ybc];rw[bv aG,TV]
def yd3 (O q:List Nat) (off k c x s:Nat) (b:off+k<O.length) (a:val ((O.drop off).take k)+B^k*c=val (q.take k)*2^s) (hq:val (q.take (k+1))=val (q.take k)+B^k*x):
 val (((O.set (off+k) ((c+x*2^s) % 4294967296)).drop off).take (k+1))+B^(k+1)*((c+x*2^s) / 4294967296)=val (q.take (k+1))*2^s:=by
 rw[drop_set,ER _ k _ yK,hq,jM,iW,<-a];have h:=yfw (B^k) (c+x*2^s);rw[lW,<-Nat.mul_assoc] at h;simp only[B] at h ⊢;omega
def ymr (O q:List Nat) (p s N:Nat) (b v:Nat) (hz:val (O.take p)=0) (c:p<=O.length) (h:val (O.drop p)+B^N*b=val q*2^s) (hv:val q*2^s<B^N) (hn:v=val q*2^(32*p+s)):val O=v:=by
 have a:b=0:=by
  rcases ty b with a|a
  ·exact a
  ·have:=nS (B^N) a;omega
 rw[a] at h;rw[wW O p c,hz,hn,lR,show 2^(32*p)=B^p by rw[yc]];rw[sr,ms] at h;rw[h,iR,vf]
end Na

namespace Na
open Go
def padk:Nat->Nat->List UInt8
 |0,_=>[]
 |k+1,r=>padk k (r / 10)++[UInt8.ofNat (48+r % 10)]
def yow (v:Nat) (hv:v≠0) (k:Nat): ∀ r,r<10^k->Lib.decDigits (v*10^k+r)=Lib.decDigits v++padk k r:=by
 induction k with
 |zero=>
  intro r a
  have c:r=0:=by rw[xV] at a;omega
  rw[c];simp[padk]
 |succ k b=>
  intro r a
  rw[jM] at a
  have i:10*10^k<=v*10^(k+1):=by rw[jM,fM (10^k) 10];exact Nat.le_mul_of_pos_left _ aG
  have g:0<10^k:=fp bL
  rw[Lib.decDigits,EF aG]
  have e:v*10^(k+1)+r=10*(v*10^k)+r:=by rw[jM,<-Nat.mul_assoc,fM _ 10]
  have f:(v*10^(k+1)+r) / 10=v*10^k+r / 10:=aG
  have d:(v*10^(k+1)+r) % 10=r % 10:=aG
  rw[f,d,b (r / 10) aG,padk,tr]
def ycL (k:Nat): ∀ r,r<10^(k+1)->padk (k+1) r=List.replicate (k+1-(Lib.decDigits r).length) 48++Lib.decDigits r/\(Lib.decDigits r).length <=k+1:=by
 induction k with
 |zero=>intro r a;rw[Lib.decDigits,CT (by simpa using a)];simp[padk,o0 (show r<10 by simpa using a)]
 |succ k b=>
  intro r a
  by_cases h:r<10
  ·rw[Lib.decDigits,CT h]
   obtain⟨e,_⟩:=b (r / 10) (eR (show r / 10<1 by omega) (Wr _ _ bL))
   rw[padk,e,show r / 10=0 by omega,Lib.decDigits,CT bL,o0 h]
   refine⟨?_,by simp⟩
   rw[show k+1+1 - [UInt8.ofNat (48+r)].length =k+1 - [UInt8.ofNat (48+0)].length +1 by simp,List.replicate_succ']
   simp
  ·rw[jM] at a
   obtain⟨e,hl⟩:=b (r / 10) aG
   rw[Lib.decDigits,EF h,padk,e,j2,List.length_singleton]
   exact⟨by rw[show k+1+1-((Lib.decDigits (r / 10)).length +1)=k+1-(Lib.decDigits (r / 10)).length by omega,tr],by omega⟩
def ymS (v:Nat) (hv:v / 1000000000≠0):Lib.decDigits v=Lib.decDigits (v / 1000000000)++(List.replicate (9-(Lib.decDigits (v % 1000000000)).length) 48++Lib.decDigits (v % 1000000000)):=by have a:v % 1000000000<10^9:=kk _ bL;rw[<-(ycL 8 _ a).1,<-yow _ hv 9 _ a];congr 1;have:=sz v 1000000000;omega
def ynv (v:Nat):(Lib.decDigits (v % 1000000000)).length <=9:=(ycL 8 _ (kk _ bL)).2
def yvJ (m:Nat):Lib.repeatL [48] m=List.replicate m 48:=by
 induction m with
 |zero=>rfl
 |succ m a=>rw[Lib.repeatL,a,Wn];rfl
end Na

namespace Na
open Go
def yt2 (x y Y o s:Nat) (q:s<32) (hx:x<B) (i:Y=y+B*o):(x+B*Y) / 2^s=((x+y*B) / 2^s) % B+B*(Y / 2^s):=by
 obtain⟨p,d⟩:=bx (2^s);obtain⟨c,g⟩:=bx (2^(32-s));have a:B=p*c:=by rw[d,g,<-Nat.pow_add,show s+(32-s)=32 by omega]
 have b:0<p:=by rw[d];exact fp bL
 rw[<-d];have n:(x+B*Y) / p=x / p+c*Y:=by rw[a,fB,KM _ _ b]
 have m:(x+y*B) / p=x / p+c*y:=by rw[a,vf,KM _ _ b,fM y]
 have e:Y % p=y % p:=by rw[i,a,fB,E5]
 have k:c*Y=B*(Y / p)+c*(y % p):=by have:=dZ (c * ·) (sz Y p);simp only[lW,e] at this;rw[<-this,a,<-Nat.mul_assoc,fM c p]
 have j:c*y=B*(y / p)+c*(y % p):=by have:=dZ (c * ·) (sz y p);simp only[lW] at this;rw[<-this,a,<-Nat.mul_assoc,fM c p]
 have f:x / p<c:=by rw[wm b,fM,<-a];exact hx
 have hm:c*(y % p)+c<=B:=by have:=nS c (show y % p+1<=p from kk _ b);rw[lW,oU,fM c p,<-a] at this;exact this
 rw[n,m,k,j]
 have l:(x / p+(B*(y / p)+c*(y % p))) % B=x / p+c*(y % p):=by rw[show x / p+(B*(y / p)+c*(y % p))=(x / p+c*(y % p))+B*(y / p) by omega,E5,o0 aG]
 rw[l];omega
def yoE (L V k s:Nat) (a:L<B^k):(L+B^k*V) / 2^(32*k+s)=V / 2^s/\((L+B^k*V) % 2^(32*k+s)≠0↔L≠0∨V % 2^s≠0):=by
 have c:2^(32*k)=B^k:=by rw[yc]
 have b:0<B^k:=fp bL;rw[lR,c];constructor
 ·rw[<-Nat.div_div_eq_div_mul,KM _ _ b,t6 a,iR]
 ·have e:(L+B^k*V) % (B^k*2^s)=L+B^k*(V % 2^s):=by
   rw[Nat.mod_mul,KM _ _ b,t6 a,iR,E5,o0 a]
  rw[e];constructor
  ·intro h;rcases ty L with hl|hl
   ·rcases ty (V % 2^s) with hv|hv
    ·rw[hl,hv] at h;simp at h
    ·right;omega
   ·left;omega
  ·rintro (h|h)
   ·omega
   ·have:=xG b (show 0<V % 2^s by omega);omega
def Rk (x s:Nat) (hx:x<4294967296) (a:s<32):bits BinOp.and IntKind.u32 (x:Int) ((2^s-1:Nat):Int)=((x % 2^s:Nat):Int):=by have b:2^s<=2^31:=hJ bL aG;rw[(yqy x (2^s-1) hx aG).1,ybY]
end Na

namespace Na
open Go
def isD (c:UInt8):Bool:=decide (48<=c.toNat)&&decide (c.toNat<=57)
def num (t:List UInt8):Nat:=t.foldl (fun a c=>10*a+(c.toNat-48)) 0
def parse (t:List UInt8):List Nat × Int:=if t=[]∨t.all isD=false then([],3) else fits (num t)
def ycJ (t:List UInt8): ∀ a,t.foldl (fun a c=>10*a+(c.toNat-48)) a=a*10^t.length+num t:=by
 induction t with
 |nil=>intro a;simp[num]
 |cons c t b=>
  intro a
  have d:num (c::t)=(c.toNat-48)*10^t.length+num t:=by rw[num,uU,sr,iR,b]
  rw[uU,b,d,gE,jM,iW]
  rw[show 10*a*10^t.length=a*(10^t.length*10) by rw[fM 10 a,fB,fM 10]]
  omega
def yjT (a b:List UInt8):num (a++b)=num a*10^b.length+num b:=by rw[num,ZN,ycJ];rfl
def ykx (t:List UInt8) (h:t.all isD=true):num t<10^t.length:=by
 induction t with
 |nil=>simp[num]
 |cons c t a=>
  rw[qb,fs] at h
  have d:=a h.2
  have b:c.toNat-48<=9:=by have:=h.1;simp only[isD,fs,kF] at this;omega
  rw[num,uU,sr,iR,ycJ,gE,jM]
  have:=iS (10^t.length) b
  omega
def yu7 (c:UInt8) (t:List UInt8) (h:isD c=true) (b:c≠48):10^t.length<=num (c::t):=by
 have a:1<=c.toNat-48:=by have d:c.toNat≠48:=fun e=>b (qu.1 (by rw[e];rfl));simp only[isD,fs,kF] at h;omega
 rw[num,uU,sr,iR,ycJ];have:=iS (10^t.length) a;omega
def yjg (t:List UInt8):num (t.dropWhile (· ==48))=num t:=by
 induction t with
 |nil=>rfl
 |cons c t a=>
  by_cases h:(c==48)=true
  ·have b:c=48:=nu
   subst b
   rw[O1,bT es,a];rfl
  ·rw[O1,bv nu]
end Na

namespace Na
open Go
def yn0 (l:List UInt8): ∀ (a:Nat),l.all isD=true->a*10^l.length+10^l.length<=1000000000000000000->Lib.parseUint10 a l= .ok (a*10^l.length+num l):=by
 induction l with
 |nil=>intro a _ _;simp[Lib.parseUint10,num]
 |cons c l d=>
  intro a hd hb
  rw[qb,fs] at hd
  have b:48<=c.toNat/\c.toNat<=57:=by have:=hd.1;simp only[isD,fs,kF] at this;exact this
  have e:1<=10^l.length:=Wr _ _ bL
  have hn:num (c::l)=(c.toNat-48)*10^l.length+num l:=by rw[num,uU,sr,iR,ycJ]
  rw[gE,jM] at hb ⊢
  have hb2:a*(10^l.length*10)=(a*10)*10^l.length:=by rw[fM (10^l.length) 10,fB]
  have g:(a*10+(c.toNat-48))*10^l.length+10^l.length<=a*(10^l.length*10)+10^l.length*10:=by rw[hb2,iW];exact yfc
  have f:a<=100000000000000000:=by have:a*10<=a*10*10^l.length:=ybX _ e;omega
  rw[Lib.parseUint10,bT ⟨b.1,b.2⟩,bv aG,bv aG,d _ hd.2 aG,hn,hb2,iW,Ux]
def yqW (l:List UInt8) (hd:l.all isD=true) (f:l≠[]) (hl:l.length<=9):Lib.atoiAll l= .ok (num l:Nat):=by
 have i:10^l.length<=10^9:=hJ bL hl;have a:=yn0 l 0 hd aG;rw[qo,iR] at a;have j:=ykx l hd
 cases l with
 |nil=>exact absurd rfl f
 |cons c r=>
  rw[qb,fs] at hd
  have g:48<=c.toNat/\c.toNat<=57:=by have:=hd.1;simp only[isD,fs,kF] at this;exact this
  have b: ¬ (c.toNat=43∨c.toNat=45):=aG
  have e: ¬ c.toNat=45:=aG
  have d:Lib.parseMag (if c.toNat=43∨c.toNat=45 then r else c::r)= .ok (num (c::r)):=by rw[bv b,Lib.parseMag,bv cn,a]
  unfold Lib.atoiAll
  simp only[]
  rw[d]
  simp[e];omega
def dset:List UInt8:=[48,49,50,51,52,53,54,55,56,57]
def yuK (c:UInt8):dset.contains c=isD c:=by
 obtain⟨k,a⟩:=bx (c.toNat:Nat);have b: ∀ d:UInt8,(c=d)↔k=d.toNat:=fun d=>by rw[a];exact qu.symm
 rw[vs];simp only[dset,List.contains_iff_mem,sC,yF,yR,isD,fs,kF,b,<-a,UInt8.toNat_ofNat];omega
def dropWhile_nil {b:Type} (p:b->Bool) (l:List b):l.dropWhile p=[]↔l.all p=true:=by
 induction l with
 |nil=>simp
 |cons a l c=>
  by_cases h:p a=true
  ·rw[O1,bT h,c,qb,h,gA]
  ·rw[O1,bv h,qb];simp[h]
def yww (l cs:List UInt8):Lib.trimS l cs=[]↔l.all (cs.contains ·)=true:=by
 rw[Lib.trimS,Lib.trimLeftS,dropWhile_nil,Lib.trimRightS,Yw];have h:=sI (p:=(cs.contains ·)) (l:=l.reverse)
 have b:(l.reverse.takeWhile (cs.contains ·)).all (cs.contains ·)=true:=by exact zb
 have a:l.all (cs.contains ·)=l.reverse.all (cs.contains ·):=Yw.symm;rw[a];conv=>rhs;rw[<-h]
 rw[Eu,b,gA]
def yl1 (l:List UInt8):Lib.trimS l dset=[]↔l.all isD=true:=by rw[yww];have:(fun c=>dset.contains c)=isD:=funext yuK;rw[this]
def ylT (l:List UInt8) (h:l.all isD=true):(l.dropWhile (· ==48)).all isD=true:=by rw[na] at h ⊢;exact fun x hx=>h x ((Ip _).subset hx)
def yty (l:List UInt8) (c:UInt8) (t:List UInt8) (h:l.dropWhile (· ==48)=c::t):c≠48:=by
 induction l with
 |nil=>simp at h
 |cons a l d=>
  by_cases b:(a==48)=true
  ·rw[O1,bT b] at h;exact d h
  ·rw[O1,bv b] at h
   injection h with e f
   subst e
   simpa using b
def ytp (a b m n k:Nat) (h:a<=b^n) (c:n*m<=k) (hb:0<b):a^m<=b^k:=by have:=yaB h m;rw[<-Nat.pow_mul] at this;exact dE this (hJ hb c)
def yn3 (k:Nat) (h:2560<=k):B^256<=10^k:=ytp B 10 256 10 k bL h bL
def ypE (l:List UInt8) (hd:l.all isD=true) (h:3000<(l.dropWhile (· ==48)).length):fits (num l)=([],2):=by
 rw[<-yjg];have a:=ylT l hd
 cases e:l.dropWhile (· ==48) with
 |nil=>rw[e] at h;simp at h
 |cons c t=>
  have f:=yty l c t e
  rw[e] at h a
  rw[qb,fs] at a
  have d:=yu7 c t a.1 f
  rw[gE] at h
  have b:=yn3 t.length aG
  rw[fits,bT]
  exact yaX _ _ (dE b d)
def ymc {a b:Nat} (h:fits a=([],2)) (c:a<=b):fits b=([],2):=by
 by_cases d:256<(cl a).length
 ·rw[fits,bT];refine yaX _ _ (dE ?_ c);exact Hv fun hl=>by have:=(Da a 256).2 hl;omega
 ·rw[fits,bv d] at h;injection h with _ h;exact absurd h bL
def ypx (l:List UInt8) (k n:Nat):num (l.take (k+n))=num (l.take k)*10^((l.drop k).take n).length +num ((l.drop k).take n):=by rw[<-yjT,List.take_add]
def ywQ (l:List UInt8) (k:Nat):num (l.take k)<=num l:=by have:=yjT (l.take k) (l.drop k);rw[ze] at this;rw[this];have:=nS (num (l.take k)) (Wr (l.drop k).length 10 bL);omega
end Na

namespace Dc
abbrev Bs:=List UInt8
def cu (c:UInt8):Bool:=decide (48<=(c.toNat:Int))&&decide ((c.toNat:Int)<=57)
def dD (l:Bs):Bool:=l.all cu
def right (l:Bs) (x:Int):Bool:=
 if l=[] then x==0
 else decide (l.length<=1100)&&(decide (-100000<=x)&&(decide (x<=100000)&&(dD l&&((l[0]? != some 48)&&(l[l.length-1]? != some 48)))))
def ymt (l:Bs) (x:Int) (h:l.length=0):right l x=(x==0):=by have:l=[]:=sV.1 h;simp[right,this]
def yjn (l:Bs) (x:Int) (h:0<l.length) (h':1100<l.length∨x < -100000∨100000<x∨dD l=false∨l[0]? =some 48∨l[l.length-1]? =some 48):right l x=false:=by
 have a:l≠[]:=by intro e;simp[e] at h
 rw[right,bv a];rcases h' with h'|h'|h'|h'|h'|h'
 ·rw[eL aG];rfl
 ·rw[eL (p:= -100000<=x) aG];simp
 ·rw[eL (p:=x<=100000) aG];simp
 ·rw[h'];simp
 ·rw[h'];simp
 ·rw[h'];simp
def yij (l:Bs) (x:Int) (h:0<l.length) (g:l.length<=1100) (f: -100000<=x) (d:x<=100000) (c:dD l=true) (b:l[0]?≠some 48) (a:l[l.length-1]?≠some 48):right l x=true:=by
 have i:l≠[]:=by intro e;simp[e] at h
 rw[right,bv i,c];simp[g,f,d,b,a]
def get?_bytes (s:ByteArray) (k:Nat) (h:k<s.size):s.data.toList[k]? =some s[k]:=by simp[ByteArray.getElem_eq_getElem_data,h]
def last?_bytes (s:ByteArray) (h:0<s.size):s.data.toList[s.data.toList.length-1]? =some s[s.size-1]:=by rw[show s.data.toList.length=s.size by simp];exact get?_bytes s _ aG
def yeY {c d:UInt8} (h:(c.toNat:Int)=d.toNat):c=d:=qu.1 aG
def ykU {c d:UInt8} (h:c=d):(c.toNat:Int)=d.toNat:=by rw[h]
def yw2 (s:ByteArray) (x:Int) (a:0<s.size) (h:1100<s.size∨x < -100000∨100000<x∨(s[0].toNat :Int)=48∨(s[s.size-1].toNat :Int)=48):right s.data.toList x=false:=by
 have hl:s.data.toList.length=s.size:=cn;refine yjn _ _ aG ?_;rcases h with h|h|h|h|h
 ·exact .inl aG
 ·exact .inr (.inl h)
 ·exact .inr (.inr (.inl h))
 ·exact .inr (.inr (.inr (.inr (.inl (by rw[get?_bytes s 0 a];exact dZ some (yeY h))))))
 ·exact .inr (.inr (.inr (.inr (.inr (by rw[last?_bytes s a];exact dZ some (yeY h))))))
def ypv (s:ByteArray) (x:Int) (a:0<s.size) (e:s.size<=1100) (d: -100000<=x) (c:x<=100000) (a4: ¬ (s[0].toNat :Int)=48) (a5: ¬ (s[s.size-1].toNat :Int)=48) (b:dD s.data.toList=true):right s.data.toList x=true:=by have hl:s.data.toList.length=s.size:=cn;exact yij _ _ aG aG d c b (by rw[get?_bytes s 0 a];intro h;exact a4 (ykU (tJ h))) (by rw[last?_bytes s a];intro h;exact a5 (ykU (tJ h)))
def yun (s:ByteArray) (j:0<s.size):Lib.hasSuffix s.data.toList [48]=decide ((s[s.size-1].toNat :Int)=48):=by
 have a:=last?_bytes s j;have b:s.data.toList≠[]:=by intro e;rw[e] at a;cases a
 rw[Lib.hasSuffix,vs,List.isSuffixOf_iff_suffix,decide_eq_true_iff];constructor
 ·rintro ⟨t,f⟩;rw[<-f] at a;simp at a;rw[<-a];rfl
 ·intro h;have i:s[s.size-1]=48:=yeY nu;refine⟨s.data.toList.dropLast,?_⟩;have d:=yaE b
  have g:s.data.toList.getLast b=48:=by have c:=ya3 (l:=s.data.toList);rw[a,ylF b,i] at c;exact tJ c
  rw[g] at d;exact d
def ytK (s:ByteArray) (x:Int) (a:0<s.size) (h:dD s.data.toList=false):right s.data.toList x=false:=by have hl:s.data.toList.length=s.size:=cn;exact yjn _ _ aG (.inr (.inr (.inr (.inl h))))
def oT (l:Bs) (x:Int):Int:=if right l x then l.length+x else 0
def yeF (s:ByteArray) (x:Int):oT s.data.toList x=if right s.data.toList x then(s.size:Int)+x else 0:=by simp[oT]
def xW {l:Bs} {x:Int} (h:right l x=true):l.length<=1100:=by
 rw[right] at h;split at h
 ·rename_i e;simp[e]
 ·simp only[fs,kF] at h;exact h.1
def sj {l:Bs} {x:Int} (h:right l x=true): -100000<=x/\x<=100000:=by
 rw[right] at h;split at h
 ·have:x=0:=nu;omega
 ·simp only[fs,kF] at h;exact⟨h.2.1,h.2.2.1⟩
def yu {l:Bs} {x:Int} (h:right l x=true):dD l=true:=by
 rw[right] at h;split at h
 ·rename_i e;simp[e,dD]
 ·simp only[fs,kF] at h;exact h.2.2.2.1
end Dc

namespace Dc
structure Res where
 n:Bool
 l:Bs
 x:Int
 e:Int
def Res.val (r:Res):Value:= .tuple #[.agg #[.bool r.n,.string ⟨r.l.toArray⟩,.int .i64 r.x],.int .i64 r.e]
def lead (l:Bs):Bs:=Lib.trimLeftB l 48
def core (l:Bs):Bs:=Lib.trimRightB (lead l) 48
def tz (l:Bs):Nat:=(lead l).length -(core l).length
def mk (n:Bool) (l:Bs) (x:Int):Res:=
 if dD l=true then
  if core l=[] then⟨n,[],0,0⟩
  else if right (core l) (x+tz l)=true then⟨n,core l,x+tz l,0⟩
  else⟨false,[],0,2⟩
 else⟨false,[],0,3⟩
def yf5 {n:Bool} {l:Bs} {x:Int} (h: ¬ dD l=true):mk n l x=⟨false,[],0,3⟩:=by rw[mk,bv h]
def EA {n:Bool} {l:Bs} {x:Int} (h:dD l=true) (a:core l=[]):mk n l x=⟨n,[],0,0⟩:=by rw[mk,bT h,bT a]
def Kd {n:Bool} {l:Bs} {x:Int} (h:dD l=true) (b:core l≠[]) (a:right (core l) (x+tz l)=true):mk n l x=⟨n,core l,x+tz l,0⟩:=by rw[mk,bT h,bv b,bT a]
def R7 {n:Bool} {l:Bs} {x:Int} (h:dD l=true) (b:core l≠[]) (a: ¬ right (core l) (x+tz l)=true):mk n l x=⟨false,[],0,2⟩:=by rw[mk,bT h,bv b,bv a]
def yjz (a r:Bs) (h: ∀ c ∈ a,c=48):(a++r).dropWhile (· ==48)=r.dropWhile (· ==48):=
 yc0 (fun c b=>by simp[h c b])
def yjD (b:Bs) (h: ∀ c,b[0]? =some c->c≠48):b.dropWhile (· ==48)=b:=by
 cases b with
 |nil=>rfl
 |cons c b=>rw[yV];simpa using h c rfl
def ycu (l:Bs):(tz l:Int)=(lead l).length -(core l).length :=by
 have:(core l).length <=(lead l).length :=by exact yki
 unfold tz;omega
def ykA (l a b z:Bs) (hl:l=a++(b++z)) (f: ∀ c ∈ a,c=48) (hz: ∀ c ∈ z,c=48) (hb:b≠[]) (h: ∀ c,b[0]? =some c->c≠48) (g: ∀ c,b[b.length-1]? =some c->c≠48):
 lead l=b++z/\core l=b:=by
 have e:lead l=b++z:=by rw[lead,Lib.trimLeftB,hl,yjz _ _ f];refine yjD _ fun c d=>h c ?_;have:0<b.length:=ti.2 hb;rwa[zf this] at d
 refine⟨e,?_⟩;rw[core,e,Lib.trimRightB,List.reverse_append,yjz _ _ (fun c d=>hz c (by simpa using d)),yjD,ye9];intro c d;refine g c ?_;have:0<b.length:=ti.2 hb;rwa[ygJ this] at d
def yv0 {l:Bs} {c:UInt8} (h:c ∈ lead l):c ∈ l:=by rw[lead,Lib.trimLeftB] at h;exact(Ip _).mem h
def yqu {l:Bs} {c:UInt8} (h:c ∈ core l):c ∈ l:=by rw[core,Lib.trimRightB,yca] at h;have:=(Ip _).mem h;exact yv0 (by simpa using this)
def yff (l:Bs):(core l).length <=(lead l).length :=by exact yki
def Tf (l:Bs):(lead l).length <=l.length:=by rw[lead,Lib.trimLeftB];exact(Ip _).length_le
def ycv (l:Bs):tz l<=l.length:=by have:=Tf l;unfold tz;omega
def yjM (l:Bs) (c:UInt8) (h:(l.dropWhile (· ==48))[0]? =some c):c≠48:=by
 induction l with
 |nil=>simp at h
 |cons a l d=>
  by_cases b:a=48
  ·rw[RM (by simpa using b)] at h;exact d h
  ·rw[yV (by simpa using b)] at h
   simp at h;rw[<-h];exact b
def yoR (l:Bs) (c:UInt8) (h:(core l)[(core l).length -1]? =some c):c≠48:=by
 rw[core,Lib.trimRightB] at h;generalize hd:(lead l).reverse.dropWhile (· ==48)=d at h;have b:=fun c=>yjM (lead l).reverse c;rw[hd] at b
 cases d with
 |nil=>simp at h
 |cons a d=>
  rw[ygJ cn] at h
  exact b c nu
def yj1 (l:Bs) (h:core l≠[]): ∃ z,lead l=core l++z/\ ∀ c ∈ z,c=48:=by
 have b:=sI (p:=(· ==48)) (l:=(lead l).reverse);refine⟨((lead l).reverse.takeWhile (· ==48)).reverse,?_,?_⟩
 ·rw[core,Lib.trimRightB,<-List.reverse_append,b,ye9]
 ·intro c a;rw[yca] at a;have:=na.1 (zb (l:=(lead l).reverse) (p:=(· ==48))) c a;simpa using this
def yph (l:Bs) (c:UInt8) (b:core l≠[]) (h:(core l)[0]? =some c):c≠48:=by
 obtain⟨z,hz,_⟩:=yj1 l b
 have a:(lead l)[0]? =some c:=by rw[hz,zf (ti.2 b)];exact h
 rw[lead,Lib.trimLeftB] at a;exact yjM _ _ a
def ysT {l:Bs} (h:dD l=true):dD (core l)=true:=by rw[dD,na] at *;exact fun c a=>h c (yqu a)
def ysS {l:Bs} (x:Int) (h:dD l=true) (f:core l≠[]):right (core l) x=true↔((core l).length <=1100/\ -100000<=x/\x<=100000):=by
 constructor
 ·intro d;exact⟨xW d,sj d⟩
 ·rintro ⟨a,b,c⟩;exact yij _ _ (ti.2 f) a b c (ysT h) (fun e=>yph l _ f e rfl) (fun e=>yoR l _ e rfl)
def yhQ {l:Bs} {x:Int} (hl:l.length<=1000000000) (c:core l≠[]) (h:x < -1099511627776∨1099511627776<=x): ¬ right (core l) (x+tz l)=true/\ ¬ right (core l) x=true:=by have b:=ycv l;exact⟨fun a=>by have:=sj a;omega,fun a=>by have:=sj a;omega⟩
end Dc

namespace Dc
def odd (l:Bs):Bool:=match l.getLast? with
 |some c=>c.toNat % 2==1
 |none=>false
def half (rest:Bs):Int:=Lib.compareBytes rest [53]
def up (neg:Bool) (a rest:Bs) (way:Int):Bool:=
 if rest=[] then false
 else if way=0 then decide (0<half rest) || (decide (half rest=0)&&odd a)
 else if way=1 then decide (0<=half rest)
 else if way=3 then true
 else if way=4 then neg
 else decide (way=5)&&!neg
def no9 (l:Bs):Bs:=Lib.trimRightB l 57
def more (l:Bs):Bs:=
 match (no9 l).getLast? with
 |none=>49::Lib.repeatL [48] (l.length-(no9 l).length)
 |some c=>(no9 l).dropLast ++[c+1]++Lib.repeatL [48] (l.length-(no9 l).length)
def cut (n:Bool) (l:Bs) (x k way:Int):Res:=
 let a:=l.take k.toNat
 let rest:=if k<0 then 48::l else l.drop k.toNat
 mk n (if up n a rest way then more a else a) (x+l.length-k)
def yvb (c:UInt8):bits BinOp.and IntKind.u8 (c.toNat:Int) 1=((c.toNat % 2:Nat):Int):=by have h: ∀ n:Fin 256,bits BinOp.and IntKind.u8 ((n:Nat):Int) 1=(((n:Nat) % 2:Nat):Int):=tX;exact h ⟨c.toNat,c.toNat_lt⟩
def yqH {l:Bs} (h:l.length=0):odd l=false:=by rw[sV.1 h];rfl
def ypW (s:ByteArray) (h:0<s.size):odd s.data.toList=(((s[s.size-1].toNat % 2:Nat):Int)==1):=by have a:=last?_bytes s h;rw[odd,ya3,a];simp only[];rw[vs];simp;omega
def yeX (l:Bs):(no9 l).length <=l.length:=by rw[no9,Lib.trimRightB,List.length_reverse];have:=(Ip (· ==57) (l:=l.reverse)).length_le;simpa using this
def yq2 {l:Bs} {c:UInt8} (h:c ∈ no9 l):c ∈ l:=by rw[no9,Lib.trimRightB,yca] at h;have:=(Ip _).mem h;simpa using this
def ygF {l:Bs} (h:no9 l=[]):more l=49::Lib.repeatL [48] (l.length-(no9 l).length):=by
 unfold more;split
 ·rfl
 ·rename_i c a;rw[h] at a;cases a
def yfW {l:Bs} {c:UInt8} (h:(no9 l).getLast? =some c):more l=(no9 l).dropLast ++[c+1]++Lib.repeatL [48] (l.length-(no9 l).length):=by
 unfold more;split
 ·rename_i a;rw[h] at a;cases a
 ·rename_i d a;rw[h] at a;cases a;rfl
def IU {l:Bs} (h:dD l=true) {c:UInt8} (a:c ∈ l):48<=c.toNat/\c.toNat<=57:=by have:=na.1 h c a;simp[cu] at this;omega
def ysx (s:ByteArray) (hd:dD s.data.toList=true): ∃ T Z:ByteArray,T=⟨(no9 s.data.toList).toArray⟩/\Z=⟨(Lib.repeatL [48] (s.size-T.size)).toArray⟩/\T.size<=s.size/\
 ((T.size=0/\(⟨#[49]⟩:ByteArray)++Z=⟨(more s.data.toList).toArray⟩)∨
  (∃ (c:UInt8) (h:0<T.size),T[T.size-1]=c/\48<=c.toNat/\c.toNat<=57/\T.extract 0 (T.size-1)++⟨#[c+1]⟩++Z=⟨(more s.data.toList).toArray⟩)):=by
 have hl:s.data.toList.length=s.size:=cn;have b:(⟨(no9 s.data.toList).toArray⟩:ByteArray).size =(no9 s.data.toList).length :=by simp[ByteArray.size]
 refine⟨_,_,rfl,rfl,by rw[b,<-hl];exact yeX _,?_⟩
 cases a:(no9 s.data.toList).getLast? with
 |none=>
  have hn:no9 s.data.toList=[]:=by simpa using a
  refine .inl ⟨by rw[b,hn];rfl,?_⟩
  rw[b,ygF hn,hl,show(⟨#[49]⟩:ByteArray)=⟨[49].toArray⟩ from rfl,yae];rfl
 |some c=>
  have f:=IU hd (yq2 (List.mem_of_getLast? a))
  have g:0<(no9 s.data.toList).length :=by
   cases e:no9 s.data.toList with
   |nil=>rw[e] at a;cases a
   |cons=>simp
  refine .inr ⟨c,by rw[b];exact g,?_,f.1,f.2,?_⟩
  ·have d:=get?_bytes (⟨(no9 s.data.toList).toArray⟩:ByteArray) ((⟨(no9 s.data.toList).toArray⟩:ByteArray).size -1) (by rw[b];omega)
   rw[ya3] at a
   have j:(⟨(no9 s.data.toList).toArray⟩:ByteArray).data.toList =no9 s.data.toList:=rfl
   rw[j] at d
   have i:(no9 s.data.toList)[(⟨(no9 s.data.toList).toArray⟩:ByteArray).size -1]? =some c:=by rw[b];exact a
   rw[i] at d
   exact(tJ d).symm
  ·rw[yfW a,ByteArray.extract_mk,show(⟨#[c+1]⟩:ByteArray)=⟨[c+1].toArray⟩ from rfl,yae,yae,b,sc,zF,yjS,hl]
def sig (n:Bool) (l:Bs) (x k way:Int):Res:=
 if right l x=true/\0<=way/\way<=5/\1<=k then
  if l.length<=k then⟨n,l,x,0⟩ else cut n l x k way
 else⟨false,[],0,1⟩
def zR (n:Bool) (l:Bs) (x k way:Int):Res:=
 if right l x=true/\0<=way/\way<=5/\ -100000<=k/\k<=100000 then
  if l≠[]/\oT l x+k<l.length then cut n l x (oT l x+k) way else⟨n,l,x,0⟩
 else⟨false,[],0,1⟩
def yuB (c:UInt8) (b:48<=c.toNat) (a:c.toNat<=57):Utf8.encode ((c.toNat:Int)+1)=⟨#[c+1]⟩:=by have h: ∀ n:Fin 256,(n:Nat)<=57->Utf8.encode (((n:Nat):Int)+1)=⟨#[UInt8.ofNat n+1]⟩:=tX;have:=h ⟨c.toNat,c.toNat_lt⟩ a;simpa using this
def yb0 (l:Bs) (p:UInt8->Bool) (k:Nat) (h:k+(l.dropWhile p).length =l.length):l.take k=l.takeWhile p:=by have e:=dZ List.length (sI (p:=p) (l:=l));rw[j2] at e;have:=List.take_left' (l₂:=l.dropWhile p) (show(l.takeWhile p).length =k by omega);rwa[sI] at this
def zt {l:Bs} (h:dD l=true) (k:Nat):dD (l.take k)=true:=by rw[dD,na] at *;exact fun c a=>h c (yaj a)
def yiN (l:Bs):(more l).length <=l.length+1:=by
 have h:=yeX l;unfold more;split
 ·rw[gE,yao];simp
 ·rename_i c a
  have b:0<(no9 l).length :=by
   cases e:no9 l with
   |nil=>rw[e] at a;cases a
   |cons=>simp
  rw[j2,j2,List.length_dropLast,yao];simp;omega
def ynE (s:ByteArray) (k:Int) (h:k<=0):(⟨(Lib.repeatL [48] (max 0 (min (-k) 1)).toNat).toArray⟩:ByteArray)++s=⟨(if k<0 then 48::s.data.toList else s.data.toList.drop k.toNat).toArray⟩:=by
 have a:s=⟨s.data.toList.toArray⟩:=rfl;by_cases b:k<0
 ·rw[bT b,show(max 0 (min (-k) 1)).toNat =1 by omega];conv=>lhs;rw[a]
  rw[yae];rfl
 ·rw[bv b,show(max 0 (min (-k) 1)).toNat =0 by omega,show k.toNat=0 by omega];conv=>lhs;rw[a]
  rw[yae];rfl
end Dc

namespace Fl
open Go
def expo (x:Nat):Nat:=x / 4503599627370496 % 2048
def frac (x:Nat):Nat:=x % 4503599627370496
def kind (x:Nat):Nat:=if expo x=2047 then(if frac x=0 then 3 else 4) else if 0<expo x then 2 else if 0<frac x then 1 else 0
def neg (x:Nat):Bool:=decide (9223372036854775808<=x)
def mant (x:Nat):Nat:=if kind x=2 then 4503599627370496+frac x else if kind x<2 then frac x else 0
def expn (x:Nat):Int:=if kind x=2 then(expo x:Int)-1075 else if kind x<2 then -1074 else 0
def yck (x:Nat):expo x<2048:=kk _ bL
def yaC (x:Nat):frac x<4503599627370496:=kk _ bL
def VS (x:Nat):mant x<9007199254740992:=by
 have:=yaC x;unfold mant;split
 ·omega
 ·split<;>omega
def KU (x:Nat): -1074<=expn x/\expn x<=971:=by
 unfold expn;split
 ·rename_i h
  unfold kind at h;have:=yck x;split at h
  ·split at h<;>omega
  ·split at h
   ·omega
   ·split at h<;>omega
 ·split<;>omega
def ov:Nat->Nat->Nat × Nat
 |0,n=>(n,0)
 |k+1,n=>if n≠0/\n % 2=0 then ov k (n / 2) else(n,k+1)
def yee {k n:Nat} (a:n≠0) (h:n % 2=0):ov (k+1) n=ov k (n / 2):=bT ⟨a,h⟩
def yeW {k n:Nat} (h:n=0∨n % 2≠0):ov (k+1) n=(n,k+1):=bv aG
def ydV (k:Nat): ∀ n,(ov k n).1 <=n/\(ov k n).2 <=k:=by
 induction k with
 |zero=>intro n;exact⟨cm,cm⟩
 |succ k a=>
  intro n
  by_cases h:n≠0/\n % 2=0
  ·rw[yee h.1 h.2]
   have:=a (n / 2)
   exact⟨by omega,by omega⟩
  ·rw[yeW aG];exact⟨cm,cm⟩
def yte (k:Nat): ∀ n,(ov k n).1 *2^k=n*2^(ov k n).2 :=by
 induction k with
 |zero=>intro n;rfl
 |succ k a=>
  intro n
  by_cases h:n≠0/\n % 2=0
  ·rw[yee h.1 h.2,jM,<-Nat.mul_assoc,a (n / 2),qV,show n / 2*2=n by omega]
  ·rw[yeW aG]
def dv (r:Dc.Res):Value:= .agg #[.bool r.n,.string ⟨r.l.toArray⟩,.int .i64 r.x]
def of (s:Bool) (n:Nat) (e:Int):Dc.Res:=
 if 0<=e then Dc.mk s (Lib.decDigits (n*2^e.toNat)) 0 else Dc.mk s (Lib.decDigits ((ov (-e).toNat n).1 *5^(ov (-e).toNat n).2)) (-((ov (-e).toNat n).2 :Int))
def okd (r:Dc.Res):Dc.Res:=⟨r.n,r.l,r.x,0⟩
def dec (x:Nat):Dc.Res:=if 3<=kind x then⟨false,[],0,11⟩ else okd (of (neg x) (mant x) (expn x))
def ycb (a k:Nat) (g:a<=8) (f:k<=1200):a^k<=Na.B^120:=by have d:a^k<=(2^3)^k:=yaB aG _;rw[<-Nat.pow_mul] at d;obtain⟨c,e⟩:=bx (120);have b:(2:Nat)^(3*k)<=2^(32*c):=hJ bL aG;rw[yc 2 32 c,e] at b;exact dE d b
def yvx (n a k:Nat) (hn:n<Na.B^2) (c:a<=8) (b:k<=1200):n*a^k<Na.B^122:=by
 have e:=ycb a k c b;have d:0<Na.B^120:=fp bL
 calc n*a^k<=n*Na.B^120:=nS _ e
  _<Na.B^2*Na.B^120:=jd hn d
  _=Na.B^122:=by rw[<-Nat.pow_add]
def yel (n a k:Nat) (hn:n<Na.B^2) (c:a<=8) (b:k<=1200):(Na.cl (n*a^k)).length <=122:=Na.F1 _ _ (yvx n a k hn c b)
end Fl

namespace Na
open Go
def yit (r:Nat) (h:r<10):isD (UInt8.ofNat (48+r))=true/\(UInt8.ofNat (48+r)).toNat -48=r/\(r≠0->UInt8.ofNat (48+r)≠48):=by
 have e:(UInt8.ofNat (48+r)).toNat =48+r:=by rw[UInt8.toNat_ofNat'];exact o0 aG
 refine⟨by simp only[isD,e,fs,kF];omega,by rw[e];omega,fun b a=>?_⟩;have:=dZ UInt8.toNat a;rw[e] at this;have c:(48:UInt8).toNat =48:=rfl;omega
def yvU (t:List UInt8) (c:UInt8):num (t++[c])=10*num t+(c.toNat-48):=by rw[num,ZN];rfl
def ypH (n:Nat):(Lib.decDigits n).all isD=true/\num (Lib.decDigits n)=n/\0<(Lib.decDigits n).length /\(n≠0->(Lib.decDigits n)[0]?≠some 48)/\(n=0->(Lib.decDigits n).length =1):=by
 induction n using Nat.strongRecOn with
 | _ n i=>
   by_cases h:n<10
   ·rw[Lib.decDigits,CT h]
    obtain⟨b,a,f⟩:=yit n h
    obtain⟨c,d⟩:=bx (UInt8.ofNat (48+n))
    rw[<-d] at b a f ⊢
    refine⟨by simp[b],by simp[num,a],by simp,fun g e=>f g ?_,fun _=>rfl⟩
    simpa using e
   ·obtain⟨m,l,k,j,_⟩:=i (n / 10) aG
    obtain⟨b,a,_⟩:=yit (n % 10) aG
    rw[Lib.decDigits,EF h]
    obtain⟨c,d⟩:=bx (UInt8.ofNat (48+n % 10))
    rw[<-d] at b a ⊢
    refine⟨by rw[Eu,m];simp[b],by rw[yvU,l,a];omega,by simp,fun _=>?_,fun g=>by omega⟩
    rw[zf k]
    exact j aG
def yeT {n k:Nat} (h:n<2^k):bitLen n<=k:=by
 by_cases a:n=0
 ·subst a;exact iH _
 ·rw[bitLen,bv a];exact(Nat.log2_lt a).2 h
end Na

namespace Fl
open Go
def low:Nat:=1074
def V (b:Nat):Nat:=(if b / 4503599627370496=0 then b % 4503599627370496 else 4503599627370496+b % 4503599627370496)*2^(b / 4503599627370496-1)
def yfb:V 0=0:=rfl
def za (j m:Nat) (h:j=0/\m<=2*4503599627370496∨4503599627370496<=m/\m<=2*4503599627370496):V (j*4503599627370496+m)=m*2^j:=by
 by_cases d:m<4503599627370496
 ·have hj:j=0:=aG;subst hj;rw[V,qo,iR,t6 d,bT rfl,o0 d]
 ·by_cases a:m=2*4503599627370496
  ·have c:(j*4503599627370496+m) / 4503599627370496=j+2:=by rw[a,<-Nat.add_mul];exact ydg _ bL
   have b:(j*4503599627370496+m) % 4503599627370496=0:=by rw[a,<-Nat.add_mul];exact Nat.mul_mod_left _ _
   rw[V,c,b,bv aG,a,show j+2-1=j+1 by omega,jM,ms,fM (2^j) 2,<-Nat.mul_assoc,fM 4503599627370496 2]
  ·have c:(j*4503599627370496+m) / 4503599627370496=j+1:=by
    rw[fM,JS bL];congr 1;exact Nat.div_eq_of_lt_le aG aG
   have b:(j*4503599627370496+m) % 4503599627370496=m-4503599627370496:=by rw[fM,yeu,Nat.mod_eq_sub_mod aG,o0 aG]
   rw[V,c,b,bv aG,show 4503599627370496+(m-4503599627370496)=m by omega,va]
def ydt (b:Nat): ∃ j m,b=j*4503599627370496+m/\(j=0/\m<4503599627370496∨4503599627370496<=m/\m<2*4503599627370496)/\V b=m*2^j/\V (b+1)=(m+1)*2^j/\j=b / 4503599627370496-1:=by
 have h:=sz b 4503599627370496;have hm:=kk b (show 0<4503599627370496 by decide);by_cases a:b / 4503599627370496=0
 ·rw[a,sr,iR] at h;refine⟨0,b,by omega,Or.inl ⟨rfl,by omega⟩,?_,?_,by omega⟩
  ·have:=za 0 b (Or.inl ⟨rfl,by omega⟩);rwa[qo,iR] at this
  ·have:=za 0 (b+1) (Or.inl ⟨rfl,by omega⟩);rwa[qo,iR] at this
 ·obtain⟨j,hj⟩: ∃ j,b / 4503599627370496=j+1:=⟨b / 4503599627370496-1,by omega⟩;rw[hj,lW,oU] at h;have hb:b=j*4503599627370496+(4503599627370496+b % 4503599627370496):=by rw[fM j];omega
  refine⟨j,4503599627370496+b % 4503599627370496,hb,Or.inr ⟨by omega,by omega⟩,?_,?_,by omega⟩
  ·have:=za j (4503599627370496+b % 4503599627370496) (Or.inr ⟨by omega,by omega⟩);rwa[<-hb] at this
  ·have:=za j (4503599627370496+b % 4503599627370496+1) (Or.inr ⟨by omega,by omega⟩);rwa[<-Nat.add_assoc,<-hb] at this
def MP (b:Nat):V b<V (b+1):=by obtain⟨j,m,_,_,c,a,_⟩:=ydt b;rw[c,a];exact jd aG (fp bL)
def V_lt {a b:Nat} (h:a<b):V a<V b:=by
 induction b with
 |zero=>omega
 |succ b c=>
  by_cases e:a=b
  ·subst e;exact MP a
  ·exact xH (c aG) (MP b)
def V_le {a b:Nat} (h:a<=b):V a<=V b:=by
 rcases Nat.eq_or_lt_of_le h with e|e
 ·rw[e];exact cm
 ·exact lY (V_lt e)
def Near (X D b:Nat):Prop:=b<=9218868437227405312/\(b=0∨(V (b-1)+V b)*D<2*X∨(V (b-1)+V b)*D=2*X/\b % 2=0)/\(b=9218868437227405312∨2*X<(V b+V (b+1))*D∨2*X=(V b+V (b+1))*D/\b % 2=0)
def yfo {X D c D' b a:Nat} (d:0<D) (g:0<D') (h:Near X D b) (h':Near c D' a) (v:b<a):X*D'<c*D∨X*D'=c*D/\b+1=a/\b % 2=0/\a % 2=0:=by
 obtain⟨r, -,e⟩:=h;obtain⟨m,f, -⟩:=h';have hb:b≠9218868437227405312:=aG;have q:a≠0:=aG;have hm:V b+V (b+1)<=V (a-1)+V a:=Nat.add_le_add (V_le aG) (V_le aG);have u:2*(X*D')<=(V b+V (b+1))*D*D':=by rw[<-Nat.mul_assoc];exact iS _ (by rcases e with h|h|h<;>omega)
 have t:(V (a-1)+V a)*D'*D<=2*(c*D):=by rw[<-Nat.mul_assoc];exact iS _ (by rcases f with h|h|h<;>omega)
 have s:(V b+V (b+1))*D*D'<=(V (a-1)+V a)*D'*D:=by rw[qV (V (a-1)+V a),fB,fB];exact iS _ hm
 by_cases j:X*D'<c*D
 ·exact Or.inl j
 ·right;have k:X*D'=c*D:=aG;have x:2*(X*D')=(V b+V (b+1))*D*D':=aG;have y:(V (a-1)+V a)*D'*D=2*(c*D):=aG;have l:0<D*D':=xG d g
  have w:V b+V (b+1)=V (a-1)+V a:=by
   have:(V b+V (b+1))*(D*D')=(V (a-1)+V a)*(D*D'):=by rw[<-Nat.mul_assoc,<-Nat.mul_assoc,qV (V (a-1)+V a)];omega
   exact KV l this
  have i:b+1=a:=by
   rcases qt (b+1) a with h|h
   ·have o:V b<V (a-1):=V_lt aG;have n:V (b+1)<V a:=V_lt h;omega
   ·omega
  refine⟨k,i,?_,?_⟩
  ·rcases e with h|h|h
   ·omega
   ·exfalso;have:=jd h g;rw[fB] at this;omega
   ·exact h.2
  ·rcases f with h|h|h
   ·omega
   ·exfalso;have:=jd h d;rw[fB 2] at this;omega
   ·exact h.2
def UJ {X D d D' b a:Nat} (c:0<D) (f:0<D') (g:X*D'=d*D) (h:Near X D b) (h':Near d D' a):b=a:=by
 rcases ydP b a with e|e|e
 ·rcases yfo c f h h' e with k|k<;>omega
 ·exact e
 ·rcases yfo f c h' h e with k|k<;>omega
def yhr {X D c D' b a:Nat} (d:0<D) (f:0<D') (g:X*D'<=c*D) (h:Near X D b) (h':Near c D' a):b<=a:=by
 rcases qt a b with e|e
 ·rcases yfo f d h' h e with k|k<;>omega
 ·exact e
def yfP {b D:Nat} (hb:b<=9218868437227405312) (a:0<D):Near (V b*D) D b:=by
 refine⟨hb,?_,Or.inr (Or.inl ?_)⟩
 ·by_cases h:b=0
  ·exact Or.inl h
  ·right;left;have:=jd (V_lt (show b-1<b by omega)) a;rw[iW];omega
 ·have:=jd (MP b) a;rw[iW];omega
def yj7 {X D b:Nat} (c:0<D) (j:V b*D<=X) (i:X<V (b+1)*D) (up:Bool) (d:up=decide ((V b+V (b+1))*D<2*X∨(V b+V (b+1))*D=2*X/\b % 2=1)):Near X D (min (b+up.toNat) 9218868437227405312):=by
 by_cases hb:9218868437227405312<=b
 ·rw[Nat.min_eq_right aG];refine⟨cm,Or.inr (Or.inl ?_),Or.inl rfl⟩;have g:V (9218868437227405312-1)<V 9218868437227405312:=V_lt bL;have f:V 9218868437227405312<=V b:=V_le hb;have:=jd (show V (9218868437227405312-1)+V 9218868437227405312<2*V b by omega) c;rw[fB] at this;omega
 ·rw[rD (by cases up<;>simp<;>omega)]
  cases up with
  |true=>
   have a:=vx d.symm
   refine⟨by simp;omega,Or.inr ?_,?_⟩
   ·show(V (b+1-1)+V (b+1))*D<2*X∨_
    rw[va]
    rcases a with h|h
    ·exact Or.inl h
    ·exact Or.inr ⟨h.1,by show(b+1) % 2=0;omega⟩
   ·by_cases e:b+1=9218868437227405312
    ·exact Or.inl e
    ·right;left
     show 2*X<(V (b+1)+V (b+1+1))*D
     have:=jd (MP (b+1)) c
     rw[iW];omega
  |false=>
   have a:=xt d.symm
   refine⟨by simp;omega,?_,Or.inr ?_⟩
   ·by_cases e:b=0
    ·exact Or.inl e
    ·right;left
     show(V (b-1)+V b)*D<2*X
     have:=jd (V_lt (show b-1<b by omega)) c
     rw[iW];omega
   ·show 2*X<(V b+V (b+1))*D∨2*X=(V b+V (b+1))*D/\b % 2=0
    rcases ydP (2*X) ((V b+V (b+1))*D) with e|e|e
    ·exact Or.inl e
    ·exact Or.inr ⟨e,by rcases Nat.mod_two_eq_zero_or_one b with k|k;exact k;exact absurd (Or.inr ⟨e.symm,k⟩) a⟩
    ·exact absurd (Or.inl e) a
end Fl

namespace Fl
open Go
def ulp (n:Nat) (e:Int):Int:=max (e+(Na.bitLen n:Int)-53) (-1074)
def upw (n k:Nat) (more:Bool):Bool:=decide (n / 2^(k-1) % 2=1)&&(decide (n % 2^(k-1)≠0) || more || decide (n / 2^k % 2=1))
def rdm (n:Nat) (k:Int) (more:Bool):Nat:=if k<=0 then n*2^(-k).toNat else n / 2^k.toNat+(upw n k.toNat more).toNat
def rd (n:Nat) (e:Int) (more:Bool):Nat:=if n=0 then 0 else min ((ulp n e+1074).toNat *4503599627370496+rdm n (ulp n e-e) more) 9218868437227405312
def rh {n:Nat} (h:n≠0):2^(Na.bitLen n-1)<=n/\n<2^Na.bitLen n/\0<Na.bitLen n:=by rw[Na.bitLen,bv h];exact⟨by rw[va];exact Nat.log2_self_le h,ye8,Nat.succ_pos _⟩
def yoe {a b c:Nat} (d:0<c) (h:a*c<=b*c):a<=b:=Nat.le_of_mul_le_mul_right h d
def ylB {a b c:Nat} (h:a*c<b*c):a<b:=Hd h
def yq1 {M n W Y:Nat} {more:Bool} (c:0<W) (f:more=false->Y=n*W) (d:more=true->n*W<Y/\Y<(n+1)*W):
 (M*W<Y↔(if more then M<=n else M<n))/\(M*W=Y↔more=false/\M=n):=by
 cases more with
 |false=>
  have e:=f rfl
  subst e
  refine⟨?_,?_⟩
  ·show M*W<n*W↔M<n
   exact⟨fun h=>Hd h,fun h=>jd h c⟩
  ·exact⟨fun h=>⟨rfl,KV c h⟩,fun h=>by rw[h.2]⟩
 |true=>
  obtain⟨b,a⟩:=d rfl
  refine⟨?_,?_⟩
  ·show M*W<Y↔M<=n
   constructor
   ·intro h
    have:=Hd (xH h a)
    omega
   ·intro h
    exact wx (iS W h) b
  ·constructor
   ·intro h
    exfalso
    rw[<-h] at b a
    have i:=Hd b
    have g:=Hd a
    omega
   ·rintro ⟨h,_⟩;cases h
def yr9 (n k a M:Nat) (more:Bool) (v:0<k) (hm:a=n / 2^k) (d:M=(2*a+1)*2^(k-1)):
 upw n k more=decide ((if more then M<=n else M<n)∨(more=false/\M=n)/\a % 2=1):=by
 obtain⟨c,rfl⟩: ∃ c,k=c+1:=⟨k-1,by omega⟩;rw[va] at d;unfold upw;rw[va,<-hm];have l:0<2^c:=fp bL;have u:a=n / 2^c / 2:=by rw[hm,jM,ycj]
 have e:=sz n (2^c);have o:=sz (n / 2^c) 2;have m:=kk n l;obtain⟨t,i⟩:=bx (n / 2^c);obtain⟨r,j⟩: ∃ t,t=n % 2^c:=⟨_,rfl⟩;rw[<-i] at u e o;rw[<-j] at e m;rw[<-i,<-j];by_cases hb:t % 2=1
 ·have b:t=2*a+1:=aG;have s:M+r=n:=by rw[d,<-b,fM];exact e
  rw[fv hb,gA]
  cases more with
  |true=>simp;omega
  |false=>
   rw[Bool.or_false]
   by_cases g:r=0
   ·have f: ¬ M<n:=aG
    have q:M=n:=aG
    simp[g,f,q]
   ·have f:M<n:=aG
    simp[g,f]
 ·have b:t=2*a:=aG
  have s:n<M:=by rw[d,iW,nW,<-b,fM t];omega
  rw[eL hb,KH];symm;apply eL;rintro (h|h)
  ·cases more<;>simp at h<;>omega
  ·omega
def PS {n:Nat} {e:Int} {more:Bool} {X D p q:Nat} (i:0<D) (lD:(p:Int)-q=e+1074) (x:more=true->54<=Na.bitLen n)
 (l:more=false->X*2^q=n*2^p*D) (y:more=true->n*2^p*D<X*2^q/\X*2^q<(n+1)*2^p*D):Near X D (rd n e more):=by
 by_cases hn:n=0
 ·subst hn
  have hm:more=false:=by
   cases more with
   |false=>rfl
   |true=>have:=x rfl;simp[Na.bitLen] at this
  have hx:=l hm;rw[qo,qo] at hx;have g:X=0:=(Nat.mul_eq_zero.1 hx).resolve_right (L9 (fp bL));rw[rd,bT rfl,g];have:=yfP (b:=0) (iH _) i;rwa[yfb,qo] at this
 ·rw[rd,bv hn];obtain⟨A,b2,Z⟩:=rh hn;obtain⟨L,I⟩:=bx (Na.bitLen n);rw[<-I] at A b2 Z x;obtain⟨u,E⟩:=bx (ulp n e);have R:u=max (e+(L:Int)-53) (-1074):=by rw[E,ulp,I]
  rw[<-E];obtain⟨j,hj⟩:=bx ((u+1074).toNat :Nat);rw[<-hj];have U:(j:Int)=u+1074:=aG;have r:0<2^q:=fp bL;have aQ:0<2^p:=fp bL;have G:0<2^p*D:=xG aQ i;by_cases F:u-e<=0
  ·have hm:more=false:=by
    cases more with
    |false=>rfl
    |true=>have:=x rfl;omega
   have hx:=l hm;obtain⟨t,S⟩:=bx ((-(u-e)).toNat :Nat);rw[rdm,bT F,<-S]
   have hv:V (j*4503599627370496+n*2^t)=n*2^t*2^j:=za _ _ (by
    have B:n*2^t<2^53:=by have:n*2^t<2^L*2^t:=jd b2 (fp bL);rw[<-Nat.pow_add] at this;exact eR this (hJ bL aG)
    by_cases w:j=0
    ·exact Or.inl ⟨w,by omega⟩
    ·right
     have N:2^52<=n*2^t:=by have:2^(L-1)*2^t<=n*2^t:=iS _ A;rw[<-Nat.pow_add] at this;exact dE (hJ bL aG) this
     omega)
   obtain⟨b,hb⟩:=bx (j*4503599627370496+n*2^t);rw[<-hb] at hv ⊢
   have g:X=V b*D:=by refine KV r ?_;rw[hx,hv,qV (n*2^t*2^j) D,fB n (2^t),<-Nat.pow_add,fB n (2^(t+j)),<-Nat.pow_add,show t+j+q=p by omega]
   have T:=MP b;have B:V b*D<V (b+1)*D:=jd T i
   have:=yj7 (X:=X) i (b:=b) (by rw[g];exact cm) (by rw[g];exact B) false (by
    symm;apply eL;rw[g,iW];rintro (h|h)
    ·omega
    ·omega)
   exact this
  ·obtain⟨k,O⟩:=bx ((u-e).toNat :Nat);rw[rdm,bv F,<-O];have P:0<k:=aG;obtain⟨d,f⟩: ∃ m,m=n / 2^k:=⟨_,rfl⟩;rw[<-f];have C:0<2^k:=fp bL
   have ik:j=0/\d<4503599627370496*2∨4503599627370496<=d/\d<4503599627370496*2:=by
    have B:d<2^53:=by rw[f,wm C,<-Nat.pow_add];exact eR b2 (hJ bL aG)
    by_cases w:j=0
    ·exact Or.inl ⟨w,by omega⟩
    ·right
     have N:2^52<=d:=by rw[f,zj C,<-Nat.pow_add];exact dE (hJ bL aG) A
     omega
   have hv:V (j*4503599627370496+d)=d*2^j:=za _ _ aG;have v:V (j*4503599627370496+d+1)=(d+1)*2^j:=by rw[Ux];exact za _ _ aG
   have Kv:2^j*2^q=2^k*2^p:=by rw[<-Nat.pow_add,<-Nat.pow_add];congr 1;omega
   obtain⟨b,hb⟩:=bx (j*4503599627370496+d);have Xm:b % 2=d % 2:=by rw[hb];omega
   rw[<-hb] at hv v;rw[<-Nat.add_assoc,<-hb];have Q:d*2^k<=n:=by rw[f];exact ybg _ _
   have K:n+1<=(d+1)*2^k:=by have:=Nat.lt_div_mul_add (a:=n) C;rw[<-f] at this;rw[iW,nW];omega
   have Xt:n*(2^p*D)<=X*2^q:=by
    cases more with
    |false=>rw[l rfl,fB];exact cm
    |true=>have:=(y rfl).1;rw[fB] at this;omega
   have EI:X*2^q<(n+1)*(2^p*D):=by
    cases more with
    |false=>rw[l rfl,fB];exact jd aG G
    |true=>have:=(y rfl).2;rw[fB (n+1)] at this;exact this
   have s: ∀ z:Nat,z*2^j*D*2^q=z*2^k*(2^p*D):=fun z=>by rw[qV _ D,fB z,Kv,<-Nat.mul_assoc,fB (z*2^k)]
   refine yj7 i ?_ ?_ _ ?_
   ·rw[hv];refine yoe r ?_;rw[s];exact dE (iS _ Q) Xt
   ·rw[v];refine ylB (c:=2^q) ?_;rw[s];exact eR EI (iS _ K)
   ·obtain⟨M,H⟩:=bx ((2*d+1)*2^(k-1));rw[yr9 n k d M more P f H]
    have J:=yq1 (M:=M) (n:=n) (W:=2^p*D) (Y:=X*2^q) (more:=more) G (fun h=>by rw[l h,fB]) (fun h=>by have:=y h;rwa[fB,fB] at this)
    have o:(V b+V (b+1))*D*2^q=2*(M*(2^p*D)):=by rw[hv,v,<-Nat.add_mul,s,H,show d+(d+1)=2*d+1 by omega];rw[<-Nat.mul_assoc 2,fM 2 ((2*d+1)*2^(k-1)),fB (2*d+1) (2^(k-1)),show 2^(k-1)*2=2^k by rw[<-Nat.pow_succ];congr 1;omega]
    apply sd.2;rw[<-J.1,<-J.2,<-Xm]
    have c1:M*(2^p*D)<X*2^q↔(V b+V (b+1))*D<2*X:=by
     constructor
     ·intro h;refine ylB (c:=2^q) ?_;rw[o,fB];omega
     ·intro h;have:=jd h r;rw[o,fB] at this;omega
    have c2:M*(2^p*D)=X*2^q↔(V b+V (b+1))*D=2*X:=by
     constructor
     ·intro h;refine KV r ?_;rw[o,fB,h]
     ·intro h;have:=dZ (· *2^q) h;simp only[o,fB] at this;rw[fB] at o;omega
    rw[c1,c2]
end Fl

namespace Dc
def nv (l:Bs):Nat:=l.foldl (fun a c=>10*a+(c.toNat-48)) 0
def yja (l:Bs): ∀ a:Nat,l.foldl (fun a c=>10*a+(c.toNat-48)) a=a*10^l.length+nv l:=by
 induction l with
 |nil=>intro a;simp[nv]
 |cons c l b=>
  intro a
  have e:nv (c::l)=(10*0+(c.toNat-48))*10^l.length+nv l:=by rw[nv,uU,b]
  rw[uU,b,e,gE,jM,sr,iR,iW,Ux]
  congr 1
  rw[fM 10 a,fB,fM 10]
def zy:nv []=0:=rfl
def yL (c:UInt8) (l:Bs):nv (c::l)=(c.toNat-48)*10^l.length+nv l:=by rw[nv,uU,yja];simp
def Ca (a b:Bs):nv (a++b)=nv a*10^b.length+nv b:=by rw[nv,ZN,yja];rfl
def ycf {c:UInt8} {l:Bs} (h:dD (c::l)=true):(48<=c.toNat/\c.toNat<=57)/\dD l=true:=by refine⟨IU h (KY ..),?_⟩;rw[dD,qb,fs] at h;exact h.2
def K6 {l:Bs} (h:dD l=true):nv l<10^l.length:=by
 induction l with
 |nil=>simp[nv]
 |cons c l a=>
  obtain⟨b,hl⟩:=ycf h
  have:=a hl
  rw[yL,gE,jM]
  exact yfc
def ydr {l:Bs} (h:dD l=true) (b:l≠[]) (a:l[0]?≠some 48):10^(l.length-1)<=nv l:=by
 cases l with
 |nil=>exact absurd rfl b
 |cons c l=>
  obtain⟨d,hl⟩:=ycf h
  have:c.toNat≠48:=by intro e;apply a;simp;exact qu.1 (by simpa using e)
  rw[yL,gE,va]
  have:1*10^l.length<=(c.toNat-48)*10^l.length:=iS _ aG
  omega
def yfq {l:Bs} (h:dD l=true) (a:l≠[]) (c:l[l.length-1]?≠some 48):0<nv l:=by
 have b:=yaE a
 have hg:l[l.length-1]? =some (l.getLast a):=by rw[<-List.getLast?_eq_getElem?,ylF a]
 have hd:=IU h (List.getLast_mem a);have:(l.getLast a).toNat ≠48:=by intro e;apply c;rw[hg];exact dZ some (qu.1 (by simpa using e))
 rw[<-b,Ca,yL,zy];simp;omega
def sg (a b:Nat):Int:=if a<b then -1 else if b<a then 1 else 0
def ykW {a b:Nat} (h:a<b):sg a b= -1:=by rw[sg,bT h]
def yim {a b:Nat} (h:b<a):sg a b=1:=by rw[sg,bv aG,bT h]
def yvw {a b:Nat} (h:a=b):sg a b=0:=by rw[sg,bv aG,bv aG]
def yo0 {a b c d:Nat} (f:a<b↔c<d) (e:b<a↔d<c):sg a b=sg c d:=by unfold sg;simp only[f,e]
def Ir (l:Bs):Prop:=l≠[]->l[l.length-1]?≠some 48
def yg9 {c:UInt8} {l:Bs} (h:Ir (c::l)):Ir l:=by
 intro a;have:=h cn
 cases l with
 |nil=>exact absurd rfl a
 |cons d l=>simpa using this
def yro (a:Bs): ∀ (b:Bs) (N:Nat),dD a=true->dD b=true->Ir a->Ir b->a.length<=N->b.length<=N->
 Lib.compareBytes a b=sg (nv a*10^(N-a.length)) (nv b*10^(N-b.length)):=by
 induction a with
 |nil=>
  intro b N _ hb _ eb _ i
  cases b with
  |nil=>rw[yvw rfl];rfl
  |cons d b=>
   have:=yfq hb cn (eb cn)
   rw[ykW];rfl
   rw[zy,qo]
   exact xG this (zm cn)
 |cons c a v=>
  intro b N n hb o eb j i
  cases b with
  |nil=>
   have:=yfq n cn (o cn)
   rw[yim];rfl
   rw[zy,qo]
   exact xG this (zm cn)
  |cons d b=>
   obtain⟨B,r⟩:=ycf n
   obtain⟨hd,m⟩:=ycf hb
   rw[gE] at j i
   have k: ∀ (c:UInt8) (l:Bs),dD l=true->l.length+1<=N->nv (c::l)*10^(N-(l.length+1))=(c.toNat-48)*10^(N-1)+nv l*10^(N-1-l.length)/\nv l*10^(N-1-l.length)<10^(N-1):=by
    intro c l hl C;have e:10^(N-1)=10^l.length*10^(N-1-l.length):=by rw[<-Nat.pow_add];congr 1;omega
    refine⟨?_,?_⟩
    ·rw[yL,iW,show N-(l.length+1)=N-1-l.length by omega,e,fB]
    ·rw[e];exact jd (K6 hl) (zm cn)
   obtain⟨u,A⟩:=k c a r j
   obtain⟨t,z⟩:=k d b m i
   rw[gE,gE,u,t,Lib.compareBytes]
   have q: ∀ x y:Nat,x<y->x*10^(N-1)+10^(N-1)<=y*10^(N-1):=fun x y h=>by have:(x+1)*10^(N-1)<=y*10^(N-1):=iS _ h;rw[iW] at this;omega
   by_cases g:c<d
   ·rw[bT g,ykW]
    have s:c.toNat<d.toNat:=g
    have:=q (c.toNat-48) (d.toNat-48) aG
    omega
   ·rw[bv g]
    by_cases f:d<c
    ·rw[bT f,yim]
     have w:d.toNat<c.toNat:=f
     have:=q (d.toNat-48) (c.toNat-48) aG
     omega
    ·rw[bv f]
     have:c.toNat=d.toNat:=by have s: ¬ c.toNat<d.toNat:=g;have w: ¬ d.toNat<c.toNat:=f;omega
     rw[v b (N-1) r m (yg9 o) (yg9 eb) aG aG,this]
     exact yo0 aG aG
def lift:Nat:=200000
def vv (l:Bs) (x:Int):Nat:=nv l*10^(x+lift).toNat
def yql {l:Bs} {x:Int} (h:right l x=true):Ir l:=by intro a;rw[right,bv a] at h;simp only[fs,rZ] at h;exact h.2.2.2.2.2
def yew {l:Bs} {x:Int} (h:right l x=true) (a:l≠[]):l[0]?≠some 48:=by rw[right,bv a] at h;simp only[fs,rZ] at h;exact h.2.2.2.2.1
def XS {l:Bs} {x:Int} (h:right l x=true) (a:l≠[]):10^((l.length:Int)+x-1+lift).toNat <=vv l x/\vv l x<10^((l.length:Int)+x+lift).toNat :=by
 have hx:=sj h;have d:0<l.length:=ti.2 a;have c:=ydr (yu h) a (yew h a);have b:=K6 (yu h);unfold vv lift;constructor
 ·rw[show((l.length:Int)+x-1+(200000:Nat)).toNat =(l.length-1)+(x+(200000:Nat)).toNat by omega,lR];exact iS _ c
 ·rw[show((l.length:Int)+x+(200000:Nat)).toNat =l.length+(x+(200000:Nat)).toNat by omega,lR];exact jd b (zm cn)
def yir {x:Int}:vv [] x=0:=by simp[vv,zy]
def ysf {l:Bs} {x:Int} (h:right l x=true) (a:l≠[]):0<vv l x:=
 eR (zm cn) (XS h a).1
end Dc

namespace Dc
def yaO (m:Nat):Lib.repeatL [48] m=List.replicate m 48:=by
 induction m with
 |zero=>rfl
 |succ m a=>rw[Lib.repeatL,a,Wn];rfl
def yfz (K:Bs) (j:Nat):Bs:=K.take j++List.replicate (K.length-j) 48
def yiJ (K:Bs) (j:Nat) (h:0<j) (hj:j<=K.length) (c:UInt8):(yfz K j).set (j-1) c=K.take (j-1)++[c]++List.replicate (K.length-j) 48:=by
 have a:K.take j=K.take (j-1)++[K[j-1]'aG]:=by
  conv=>lhs;rw[show j=j-1+1 by omega]
  rw[yh aG]
 have hl:(K.take (j-1)).length =j-1:=ycF;rw[yfz,a,tr,ykD _ _ aG,hl,C7];simp
def yib (K:Bs) (j:Nat) (h: ∀ c ∈ K.drop j,c=57) (e: ∀ c,(K.take j).getLast? =some c->c≠57):no9 K=K.take j:=by
 rw[no9,Lib.trimRightB];conv=>lhs;rw[<-List.take_append_drop j K]
 rw[List.reverse_append,yc0 (fun c d=>by rw[h c (yca.1 d)];rfl)]
 cases a:(K.take j).reverse with
 |nil=>rw[List.dropWhile_nil];have:=List.reverse_eq_nil_iff.1 a;rw[this];rfl
 |cons c r=>
  have b:(K.take j).getLast? =some c:=by rw[List.getLast?_eq_head?_reverse,a];rfl
  rw[yV (by simpa using e c b),<-a,ye9]
def yjj (K:Bs) (h: ∀ c ∈ K,c=57):more K=49::List.replicate K.length 48:=by have a:=yib K 0 h cn;rw[wh] at a;rw[ygF a,a,yaO];rfl
def yuM (K:Bs) (j:Nat) (g:0<j) (hj:j<=K.length) (h: ∀ c ∈ K.drop j,c=57) (c:UInt8) (e:K[j-1]? =some c) (i:c≠57):more K=(yfz K j).set (j-1) (c+1):=by
 have b:(K.take j).getLast? =some c:=by rw[ya3,nn,rD hj,List.getElem?_take_of_lt aG,e]
 have a:=yib K j h (fun d hd=>by rw[b] at hd;rw[<-Option.some.inj hd];exact i);have f:(no9 K).getLast? =some c:=by rw[a];exact b
 rw[yfW f,a,yiJ K j g hj,yaO,nn,rD hj,yjS,nn,rD hj,ya0,rD aG]
def ytt (c:UInt8) (t:Bs):half (c::t)=if 53<c.toNat then 1 else if c.toNat=53 then(if t=[] then 0 else 1) else -1:=by
 have e: ∀ a b:UInt8,(a<b)=(a.toNat<b.toNat):=fun a b=>rfl;simp only[half,Lib.compareBytes,e];have i:(53:UInt8).toNat =53:=rfl;rw[i];by_cases f:53<c.toNat
 ·rw[bT f,bv aG,bT f]
 ·rw[bv f];by_cases g:c.toNat=53
  ·rw[bT g,bv aG,bv aG]
   cases t with
   |nil=>rfl
   |cons d t=>rfl
  ·rw[bv g,bT aG,bv f]
end Dc

namespace Dc
def jQ (l:Bs):Int:=l.foldl (fun a c=>10*a+((c.toNat:Int)-48)) 0
def tail (neg:Bool) (ds:Bs) (b:Nat) (r:Bs):Res:=
 match r with
 | []=>mk neg ds (-b)
 |c::t=>
  if c=101∨c=69 then
   let a:=match t with|d::t'=>if d=43∨d=45 then t' else t | []=>[]
   let n:=a.takeWhile cu
   if n=[]∨9<n.length∨a.dropWhile cu≠[] then⟨false,[],0,3⟩
   else mk neg ds ((if t[0]? =some 45 then-jQ n else jQ n)-b)
  else⟨false,[],0,3⟩
def parse (l:Bs):Res:=
 let b:=Lib.trimPrefix l [45]
 let f:=b.takeWhile cu
 let a:=b.dropWhile cu
 let g:=if Lib.hasPrefix a [46] then(Lib.trimPrefix a [46]).takeWhile cu else[]
 let c:=if Lib.hasPrefix a [46] then(Lib.trimPrefix a [46]).dropWhile cu else a
 if f++g=[] then⟨false,[],0,3⟩ else tail (Lib.hasPrefix l [45]) (f++g) g.length c
def ym4 (l:Bs): ∀ (a:Nat),dD l=true->a*10^l.length+10^l.length<=1000000000000000000-> ∃ u:Nat,Lib.parseUint10 a l= .ok u/\(u:Int)=l.foldl (fun(a:Int) c=>10*a+((c.toNat:Int)-48)) (a:Int)/\u<a*10^l.length+10^l.length:=by
 induction l with
 |nil=>intro a _ _;exact⟨a,rfl,rfl,by simp⟩
 |cons c l d=>
  intro a hd hb
  have b:=IU hd (KY (a:=c) (l:=l))
  have i:dD l=true:=by rw[dD,qb,fs] at hd;exact hd.2
  have e:1<=10^l.length:=Wr _ _ bL
  rw[gE,jM] at hb
  have hb2:a*(10^l.length*10)=(a*10)*10^l.length:=by rw[fM (10^l.length) 10,fB]
  have m:(a*10+(c.toNat-48))*10^l.length+10^l.length<=a*(10^l.length*10)+10^l.length*10:=by rw[hb2,iW];exact yfc
  obtain⟨u,g,f,k⟩:=d (a*10+(c.toNat-48)) i aG
  have j:a<=100000000000000000:=by have:a*10<=a*10*10^l.length:=ybX _ e;omega
  refine⟨u,?_,?_,by rw[gE,jM];omega⟩
  ·rw[Lib.parseUint10,bT ⟨b.1,b.2⟩,bv aG,bv aG,g]
  ·rw[uU,f]
   congr 1
   omega
def yfj (l:Bs) (hd:dD l=true) (i:l≠[]) (hl:l.length<=9):Lib.atoiAll l= .ok (jQ l)/\0<=jQ l/\jQ l<1000000000:=by
 obtain⟨u,f,e,m⟩:=ym4 l 0 hd (by
  have:10^l.length<=10^9:=hJ bL hl
  omega)
 have k:10^l.length<=10^9:=hJ bL hl;have hn:jQ l=u:=e.symm;rw[hn];refine⟨?_,by omega,by omega⟩
 cases l with
 |nil=>exact absurd rfl i
 |cons c r=>
  have j:=IU hd (KY (a:=c) (l:=r))
  have b: ¬ (c.toNat=43∨c.toNat=45):=aG
  have g: ¬ c.toNat=45:=aG
  have d:Lib.parseMag (if c.toNat=43∨c.toNat=45 then r else c::r)= .ok u:=by rw[bv b,Lib.parseMag,bv cn,f]
  unfold Lib.atoiAll
  simp only[]
  rw[d]
  simp[g];omega
def ywl (s:ByteArray) (h:0<s.size):s.data.toList=s[0]::(s.extract 1 s.size).data.toList :=by
 rw[vL];have b:=get?_bytes s 0 h
 cases e:s.data.toList with
 |nil=>rw[e] at b;cases b
 |cons a l=>rw[e] at b;simp at b;rw[<-b];rfl
def ydi (s:ByteArray) (h:0<s.size):s.data.toList≠[]:=by rw[ywl s h];simp
def ytH (l p:Bs):(Lib.trimPrefix l p).length <=l.length:=by
 rw[Lib.trimPrefix];split
 ·rw[rS];omega
 ·exact cm
def ysz (l:Bs) (c:UInt8):jQ (l++[c])=10*jQ l+((c.toNat:Int)-48):=by unfold jQ;rw[ZN];rfl
end Dc

namespace Dc
def body (s l:Bs) (p:Int):Bs:=
 if l=[] then s++[48]
 else if 1<=p/\p<=21/\(l.length:Int)<=p then s++l++Lib.repeatL [48] (p-l.length).toNat
 else if 1<=p/\p<=21 then s++l.take p.toNat++[46]++l.drop p.toNat
 else if -5<=p/\p<=0 then s++[48,46]++Lib.repeatL [48] (-p).toNat ++l
 else
  let t:=if 1<l.length then s++l.take 1++([46]++l.drop 1) else s++l.take 1
  if p<1 then t++[101,45]++Lib.itoa (1-p) else t++[101,43]++Lib.itoa (p-1)
def print (n:Bool) (l:Bs) (x:Int):Bs:=
 if right l x=true then body (if n then[45] else[]) l (l.length+x) else[]
def qR (s:ByteArray) (l:Bs) (h:s.data.toList=l):s=⟨l.toArray⟩:=by rw[<-h]
def qm (a b:ByteArray):(a++b).data.toList =a.data.toList++b.data.toList:=cn
def M2 (n:Int) (h: -1000000<=n/\n<=1000000):(Lib.itoa n).length <=30:=by
 have hd: ∀ u:Nat,u<=1000000->(Lib.decDigits u).length <=29:=fun u a=>by
  rw[Lib.decDigits_length]
  have: ∀ k u:Nat,u<10^k->Lib.nDigits u<=k+1:=by
   intro k
   induction k with
   |zero=>intro u a;rw[Xd (by simp at a;omega)];omega
   |succ k b=>
    intro u a
    by_cases h:u<10
    ·rw[Xd h];omega
    ·rw[Lib.nDigits_big h]
     have:=b (u / 10) (by rw[jM] at a;omega)
     omega
  have:=this 7 u aG;omega
 unfold Lib.itoa;split
 ·rw[gE];have:=hd n.natAbs aG;omega
 ·have:=hd n.toNat aG;omega
end Dc

namespace Dc
def VT (f r:Bs) (b:dD f=true) (a: ∀ c,r[0]? =some c->cu c=false):(f++r).takeWhile cu=f:=by
 rw[yhU (fun c d=>na.1 b c d)]
 cases r with
 |nil=>simp
 |cons c r=>rw[J6 (by simp[a c rfl])];simp
def XT (f r:Bs) (b:dD f=true) (a: ∀ c,r[0]? =some c->cu c=false):(f++r).dropWhile cu=r:=by
 rw[yc0 (fun c d=>na.1 b c d)]
 cases r with
 |nil=>rfl
 |cons c r=>rw[yV (by simp[a c rfl])]
def ys8 {c:UInt8} (h:cu c=true) (k:UInt8) (a:k.toNat<48∨57<k.toNat):c≠k:=by intro e;subst e;simp[cu] at h;omega
def yh9 (n:Bool) (t:Bs) (a: ∀ c,t[0]? =some c->c≠45):Lib.hasPrefix ((if n then[45] else[])++t) [45]=n/\Lib.trimPrefix ((if n then[45] else[])++t) [45]=t:=by
 cases n
 ·have h:Lib.hasPrefix t [45]=false:=by
   cases t with
   |nil=>rfl
   |cons c t=>have:=a c rfl;simp[Lib.hasPrefix,List.isPrefixOf];exact fun e=>this e.symm
  simp[Lib.trimPrefix,h]
 ·simp[Lib.trimPrefix,Lib.hasPrefix,List.isPrefixOf]
def yji {f t:Bs} (a:dD f=true) (b:f≠[]) (c:UInt8) (h:(f++t)[0]? =some c):c≠45:=by
 cases f with
 |nil=>exact absurd rfl b
 |cons d f=>
  simp at h;subst h
  rw[dD,qb,fs] at a
  exact ys8 a.1 _ bL
def yei (n:Bool) (f r:Bs) (b:dD f=true) (d:f≠[]) (a: ∀ c,r[0]? =some c->cu c=false/\c≠46):parse ((if n then[45] else[])++(f++r))=tail n f 0 r:=by
 obtain⟨j,i⟩:=yh9 n (f++r) (fun c h=>yji b d c h)
 have g:Lib.hasPrefix r [46]=false:=by
  cases r with
  |nil=>rfl
  |cons c r=>have:=(a c rfl).2;simp[Lib.hasPrefix,List.isPrefixOf];exact fun e=>this e.symm
 unfold parse;simp only[j,i,VT f r b (fun c h=>(a c h).1),XT f r b (fun c h=>(a c h).1),g];simp[d]
def yer (n:Bool) (f g r:Bs) (a:dD f=true) (hg:dD g=true) (i:f≠[]) (b: ∀ c,r[0]? =some c->cu c=false):parse ((if n then[45] else[])++(f++(46::(g++r))))=tail n (f++g) g.length r:=by
 obtain⟨l,k⟩:=yh9 n (f++(46::(g++r))) (fun c h=>yji a i c h);have d: ∀ c,(46::(g++r))[0]? =some c->cu c=false:=ybw;have e:Lib.hasPrefix (46::(g++r)) [46]=true:=by simp[Lib.hasPrefix,List.isPrefixOf]
 have j:Lib.trimPrefix (46::(g++r)) [46]=g++r:=by simp[Lib.trimPrefix,e]
 unfold parse;simp only[l,k,VT f _ a d,XT f _ a d,e,j,VT g r hg b,XT g r hg b];simp[i]
def yd9 {k:Nat} {c:UInt8} (h:c ∈ Lib.repeatL [48] k):c=48:=by
 induction k with
 |zero=>cases h
 |succ k a=>rw[Lib.repeatL] at h;simp at h;rcases h with h|h;exact h;exact a h
def ybR (k:Nat):(Lib.repeatL [48] k).length =k:=by rw[yao];simp
def DA (k:Nat):dD (Lib.repeatL [48] k)=true:=by rw[dD,na];intro c a;rw[yd9 a];decide
def AH {a b:Bs} (c:dD a=true) (hb:dD b=true):dD (a++b)=true:=by rw[dD,Eu];unfold dD at c hb;rw[c,hb];rfl
def yuj {l:Bs} {x:Int} (h:right l x=true) (a:l≠[]):l[0]?≠some 48/\l[l.length-1]?≠some 48:=by rw[right,bv a] at h;simp only[fs,rZ] at h;exact⟨h.2.2.2.2.1,h.2.2.2.2.2⟩
def ydd (n:Bool) (l:Bs) (x:Int) (a b:Nat) (h:right l x=true) (g:l≠[]):mk n (Lib.repeatL [48] a++(l++Lib.repeatL [48] b)) (x-b)=⟨n,l,x,0⟩:=by
 obtain⟨o,m⟩:=yuj h g;obtain⟨k,d⟩:=ykA (Lib.repeatL [48] a++(l++Lib.repeatL [48] b)) _ l _ rfl (fun c=>yd9) (fun c=>yd9) g (fun c f e=>o (by rw[f,e])) (fun c f e=>m (by rw[f,e]))
 have i:(tz (Lib.repeatL [48] a++(l++Lib.repeatL [48] b)):Int)=b:=by rw[ycu,k,d,j2,ybR];omega
 have j:dD (Lib.repeatL [48] a++(l++Lib.repeatL [48] b))=true:=AH (DA _) (AH (yu h) (DA _));rw[Kd j (by rw[d];exact g) (by rw[d,i,show x-b+b=x by omega];exact h),d,i,show x-b+b=x by omega]
def SC (n:Bool) (l:Bs) (x:Int) (h:right l x=true) (a:l≠[]):mk n l x=⟨n,l,x,0⟩:=by have:=ydd n l x 0 0 h a;simpa[Lib.repeatL] using this
def ygP (n:Bool) (l:Bs) (x:Int) (b:Nat) (h:right l x=true) (a:l≠[]):mk n (l++Lib.repeatL [48] b) (x-b)=⟨n,l,x,0⟩:=by have:=ydd n l x 0 b h a;simpa[Lib.repeatL] using this
def yhm (n:Bool) (l:Bs) (x:Int) (a:Nat) (h:right l x=true) (b:l≠[]):mk n (Lib.repeatL [48] a++l) x=⟨n,l,x,0⟩:=by have:=ydd n l x a 0 h b;simpa[Lib.repeatL] using this
def RN (u:Nat):dD (Lib.decDigits u)=true/\jQ (Lib.decDigits u)=u/\Lib.decDigits u≠[]:=by
 induction u using Nat.strongRecOn with
 | _ u c=>
   have hd: ∀ k:Nat,k<10->cu (UInt8.ofNat (48+k))=true/\((UInt8.ofNat (48+k)).toNat :Int)-48=k:=by have: ∀ k:Fin 10,cu (UInt8.ofNat (48+k.val))=true/\((UInt8.ofNat (48+k.val)).toNat :Int)-48=k.val:=bL;exact fun k g=>this ⟨k,g⟩
   by_cases h:u<10
   ·rw[Lib.decDigits,CT h]
    obtain⟨a,b⟩:=hd u h
    refine⟨by rw[dD,qb,a];rfl,?_,by simp⟩
    simp only[jQ,uU,List.foldl_nil];omega
   ·rw[Lib.decDigits,EF h]
    obtain⟨a,b⟩:=hd (u % 10) (kk _ bL)
    obtain⟨f,d,i⟩:=c (u / 10) aG
    refine⟨AH f (by rw[dD,qb,a];rfl),?_,by simp⟩
    have e:jQ (Lib.decDigits (u / 10)++[UInt8.ofNat (48+u % 10)])=10*jQ (Lib.decDigits (u / 10))+(((UInt8.ofNat (48+u % 10)).toNat :Int)-48):=by simp[jQ,ZN]
    rw[e,d];omega
def yuf (u:Nat) (h:u<=1000000):(Lib.decDigits u).length <=9:=by
 rw[Lib.decDigits_length];by_cases c:u=0
 ·subst c;rw[Xd bL];decide
 ·by_cases hb:Lib.nDigits u<=9
  ·exact hb
  ·exfalso
   have: ∀ k u:Nat,u<10^(k+1)->Lib.nDigits u<=k+1:=by
    intro k
    induction k with
    |zero=>intro u a;rw[Xd (by simpa using a)];omega
    |succ k b=>
     intro u a
     by_cases h:u<10
     ·rw[Xd h];omega
     ·rw[Lib.nDigits_big h]
      have:=b (u / 10) (by rw[jM] at a;omega)
      omega
   have:=this 6 u aG;omega
def ykB (n:Bool) (ds:Bs) (k:Nat) (c:UInt8) (u:Nat) (f:c=43∨c=45) (e:u<=1000000):tail n ds k (101::c::Lib.decDigits u)=mk n ds ((if c=45 then -(u:Int) else u)-k):=by obtain⟨d,i,g⟩:=RN u;have b:=VT (Lib.decDigits u) [] d cn;have a:=XT (Lib.decDigits u) [] d cn;rw[rm] at b a;have j:=yuf u e;unfold tail;simp only[bT f,b,a,i];rw[bT bL,bv (by simp[g];omega)];simp
def yfh (n:Bool) (l:Bs) (x:Int) (h:right l x=true):parse (print n l x)=⟨n,l,x,0⟩:=by
 have hx:=sj h;have v:=xW h;have hd:=yu h;rw[print,bT h];have w: ∀ c,(46::l)[0]? =some c->cu c=false:=ybw;by_cases a:l=[]
 ·subst a;rw[body,bT rfl];have k:x=0:=by simpa[right] using h
  have:=yei n [48] [] bL cn cn;rw[rm] at this;rw[this,tail,EA bL bL,k]
 have y:0<l.length:=ti.2 a;rw[body,bv a];split
 ·rename_i d
  have:=yei n (l++Lib.repeatL [48] (l.length+x-l.length).toNat) [] (AH hd (DA _)) (by simp[a]) cn;rw[rm] at this;rw[tr,this,tail];have b:=ygP n l x (l.length+x-l.length).toNat h a;rw[show x-((l.length+x-l.length).toNat :Int)= -((0:Nat):Int) by omega] at b;exact b
 ·rename_i s
  split
  ·rename_i d
   have f:l.take ((l.length:Int)+x).toNat ≠[]:=by exact yaH
   have:=yer n (l.take ((l.length:Int)+x).toNat) (l.drop ((l.length:Int)+x).toNat) [] (zt hd _) (by rw[dD,na] at *;exact fun c d=>hd c (LK d)) f cn;rw[rm,ze] at this;rw[show(if n=true then[45] else[])++l.take ((l.length:Int)+x).toNat ++[46]++l.drop ((l.length:Int)+x).toNat =(if n=true then[45] else[])++(l.take ((l.length:Int)+x).toNat ++(46::l.drop ((l.length:Int)+x).toNat)) by simp,this,tail,rS];have b:=SC n l x h a;rw[show -((l.length-((l.length:Int)+x).toNat :Nat):Int)=x by omega];exact b
  ·split
   ·rename_i d
    have:=yer n [48] (Lib.repeatL [48] (-((l.length:Int)+x)).toNat ++l) [] bL (AH (DA _) hd) cn cn;rw[rm] at this;rw[show(if n=true then[45] else[])++[48,46]++Lib.repeatL [48] (-((l.length:Int)+x)).toNat ++l=(if n=true then[45] else[])++([48]++(46::(Lib.repeatL [48] (-((l.length:Int)+x)).toNat ++l))) by simp,this,tail,j2,ybR];have b:=yhm n l x ((-((l.length:Int)+x)).toNat +1) h a;rw[show -(((-((l.length:Int)+x)).toNat +l.length:Nat):Int)=x by omega];rw[Ay,Lib.repeatL_add,Lib.repeatL_one,tr] at b;exact b
   ·rename_i t q
    have r:(l.length:Int)+x < -5∨21<(l.length:Int)+x:=aG
    have jx: ∀ (c:UInt8) (u:Nat),(c=43∨c=45)->u<=1000000->(if c=45 then -(u:Int) else u)=l.length+x-1->
     parse ((if 1<l.length then(if n=true then[45] else[])++l.take 1++([46]++l.drop 1) else(if n=true then[45] else[])++l.take 1)++[101,c]++Lib.decDigits u)=⟨n,l,x,0⟩:=by
     intro c u j g i
     have f:l.take 1≠[]:=by exact yaH
     split
     ·rename_i m
      have:=yer n (l.take 1) (l.drop 1) (101::c::Lib.decDigits u) (zt hd _) (by rw[dD,na] at *;exact fun c d=>hd c (LK d)) f ybw;rw[ze] at this;rw[show(if n=true then[45] else[])++l.take 1++([46]++l.drop 1)++[101,c]++Lib.decDigits u=(if n=true then[45] else[])++(l.take 1++(46::(l.drop 1++(101::c::Lib.decDigits u)))) by simp,this,ykB n _ _ c u j g,i,rS];rw[show(l.length:Int)+x-1-((l.length-1:Nat):Int)=x by omega];exact SC n l x h a
     ·rename_i m
      have:=yei n (l.take 1) (101::c::Lib.decDigits u) (zt hd _) f ybw;have o:l.take 1=l:=n0 aG;rw[show(if n=true then[45] else[])++l.take 1++[101,c]++Lib.decDigits u=(if n=true then[45] else[])++(l.take 1++(101::c::Lib.decDigits u)) by simp,this,ykB n _ _ c u j g,i,o];rw[show(l.length:Int)+x-1-((0:Nat):Int)=x by omega];exact SC n l x h a
    simp only[];by_cases hp:(l.length:Int)+x<1
    ·exact ykb
    ·exact yii
end Dc

namespace Dc
def yf2 (k:Nat):nv (List.replicate k 48)=0:=by
 induction k with
 |zero=>rfl
 |succ k a=>rw[Wn,yL,a];simp
def yhD {a:Bs} (h: ∀ c ∈ a,c=48):nv a=0:=by have:a=List.replicate a.length 48:=List.eq_replicate_iff.2 ⟨rfl,h⟩;rw[this,yf2]
def ypl {a:Bs} (h: ∀ c ∈ a,c=48) (l:Bs):nv (a++l)=nv l:=by rw[Ca,yhD h];simp
def ynI {z:Bs} (h: ∀ c ∈ z,c=48) (l:Bs):nv (l++z)=nv l*10^z.length:=by rw[Ca,yhD h];simp
def ysL (l:Bs): ∃ a,l=a++lead l/\ ∀ c ∈ a,c=48:=by
 refine⟨l.takeWhile (· ==48),?_,?_⟩
 ·rw[lead,Lib.trimLeftB,sI]
 ·intro c b;have:=na.1 (zb (l:=l) (p:=(· ==48))) c b;simpa using this
def ywN (l:Bs): ∃ z,lead l=core l++z/\ ∀ c ∈ z,c=48:=by
 by_cases h:core l=[]
 ·refine⟨lead l,by rw[h];rfl,?_⟩;have a:=sI (p:=(· ==48)) (l:=(lead l).reverse)
  have d:(lead l).reverse.dropWhile (· ==48)=[]:=by have:=h;rw[core,Lib.trimRightB] at this;simpa using this
  rw[d,rm] at a;intro c b;have:=na.1 (zb (l:=(lead l).reverse) (p:=(· ==48))) c (by rw[a];simpa using b);simpa using this
 ·exact yj1 l h
def yh8 (l:Bs):nv l=nv (core l)*10^tz l:=by
 obtain⟨a,f,e⟩:=ysL l;obtain⟨z,b,d⟩:=ywN l;have c:tz l=z.length:=by unfold tz;rw[b,j2];omega
 conv=>lhs;rw[f,ypl e,b,ynI d]
 rw[c]
def ycr (n:Bool) (ds:Bs) (y:Int) (hd:dD ds=true) (d: -200000<=y) (c:(mk n ds y).e =0):
 (mk n ds y).n =n/\right (mk n ds y).l (mk n ds y).x =true/\vv (mk n ds y).l (mk n ds y).x =nv ds*10^(y+lift).toNat :=by
 by_cases a:core ds=[]
 ·rw[EA hd a];refine⟨rfl,by simp[right],?_⟩;rw[yh8,a,zy,yir];simp
 ·by_cases b:right (core ds) (y+tz ds)=true
  ·rw[Kd hd a b];refine⟨rfl,b,?_⟩;show nv (core ds)*10^(y+tz ds+lift).toNat =_;have e:nv ds*10^(y+lift).toNat =nv (core ds)*10^tz ds*10^(y+lift).toNat :=by conv=>lhs;rw[yh8]
   rw[e,fB,<-Nat.pow_add];congr 2;unfold lift;omega
  ·rw[R7 hd a b] at c;cases c
def yeq (K:Bs) (h:dD K=true):nv (more K)=nv K+1/\dD (more K)=true:=by
 by_cases k: ∀ c ∈ K,c=57
 ·have i:nv K+1=10^K.length:=by
   clear h
   induction K with
   |nil=>rfl
   |cons c K g=>
    have:=g (fun d hd=>k d (U6 _ hd))
    have a:=k c (KY ..)
    rw[yL,a,gE,jM]
    have e:(57:UInt8).toNat -48=9:=rfl
    rw[e];omega
  rw[yjj K k,i,yL,yf2,XP];refine⟨by simp,?_⟩;rw[dD,qb,fs];exact⟨by decide,by rw[<-yaO];exact DA _⟩
 · -- the last digit that is no nine
  have v: ∃ j,0<j/\j<=K.length/\(∀ c ∈ K.drop j,c=57)/\ ∃ c,K[j-1]? =some c/\c≠57:=by
   clear h
   induction K with
   |nil=>exact absurd (fun c a=>by cases a) k
   |cons d K g=>
    by_cases i: ∀ c ∈ K,c=57
    ·exact⟨1,by omega,by simp,by simpa using i,d,rfl,fun e=>k (fun c a=>by rcases sC.1 a with b|b;exact b.trans e;exact i c b)⟩
    ·obtain⟨j,q,o,m,c,f,l⟩:=g i
     refine⟨j+1,by omega,by simp;omega,by simpa using m,c,?_,l⟩
     rw[va,show j=j-1+1 by omega,List.getElem?_cons_succ];exact f
  obtain⟨j,q,o,m,c,f,l⟩:=v;have x:=IU h (yfn f);have w:c.toNat≠57:=fun e=>l (qu.1 (by simpa using e));have s:(c+1).toNat =c.toNat+1:=by rw[UInt8.toNat_add];simp;omega
  have t:K=K.take (j-1)++([c]++K.drop j):=by
   have n:=ze (j-1) K
   have b:K.drop (j-1)=c::K.drop j:=by have hj:j-1<K.length:=aG;rw[xE hj];rw[n9 hj] at f;rw[tJ f,show j-1+1=j by omega]
   rw[b] at n;simpa using n.symm
  have u:nv (K.drop j)+1=10^(K.length-j):=by
   have: ∀ L:Bs,(∀ c ∈ L,c=57)->nv L+1=10^L.length:=by
    intro L r
    induction L with
    |nil=>rfl
    |cons c L g=>
     have:=g (fun d hd=>r d (U6 _ hd))
     have a:=r c (KY ..)
     rw[yL,a,gE,jM]
     have e:(57:UInt8).toNat -48=9:=rfl
     rw[e];omega
   have:=this _ m;rwa[rS] at this
  have hm:=yuM K j q o m c f l;rw[yiJ K j q o] at hm;refine⟨?_,?_⟩
  ·have n:nv K=nv (K.take (j-1))*10^(1+(K.length-j))+((c.toNat-48)*10^(K.length-j)+nv (K.drop j)):=by
    conv=>lhs;rw[t]
    rw[Ca,Ca,yL,zy];simp only[j2,gE,rp,rS,iR,xV,oU,ms]
   have b:nv (more K)=nv (K.take (j-1))*10^(1+(K.length-j))+(c.toNat+1-48)*10^(K.length-j):=by rw[hm,tr,Ca,Ca,yf2,yL,zy,s];simp only[j2,gE,rp,XP,iR,xV,oU,ms]
   rw[n,b,show c.toNat+1-48=(c.toNat-48)+1 by omega,iW];omega
  ·rw[hm];refine AH (AH (zt h _) ?_) (by rw[<-yaO];exact DA _);simp[dD,cu,s];omega
def yom (K:Bs) (h:dD K=true):odd K=decide (nv K % 2=1):=by
 cases a:K.getLast? with
 |none=>
  have:K=[]:=by simpa using a
  subst this;rfl
 |some c=>
  obtain⟨L,rfl⟩: ∃ L,K=L++[c]:=by obtain⟨L,b⟩:=List.getLast?_eq_some_iff.1 a;exact⟨L,b⟩
  have d:=IU h (show c ∈ L++[c] by simp)
  rw[odd,a,Ca,yL,zy]
  simp only[gE,rp,iR,Nat.pow_one,xV,oU,ms]
  rw[vs];simp;omega
def ups (n:Bool) (way:Int) (q r U:Nat):Bool:=
 decide (r≠0)&&(if way=0 then decide (U<2*r) || (decide (2*r=U)&&decide (q % 2=1))
  else if way=1 then decide (U<=2*r) else if way=3 then true else if way=4 then n else decide (way=5)&&!n)
def rnd (n:Bool) (way:Int) (V U:Nat):Nat:=V / U+(if ups n way (V / U) (V % U) U=true then 1 else 0)
def yhP (n:Bool) (way:Int) (q U:Nat) (hU:0<U):rnd n way (q*U) U=q:=by unfold rnd ups;rw[Nat.mul_mod_left,ydg _ hU];simp
def unit (k:Int):Nat:=10^(lift-k).toNat
def ybp (k:Int):0<unit k:=zm (by simp[unit])
def ypT (n:Bool) (way:Int) (K R:Bs) (o:dD K=true) (e:dD R=true) (a:R≠[]) (d:Ir R) (E:Nat) (b:0<E):
 up n K R way=ups n way (nv K) (nv R*E) (10^R.length*E):=by
 have s:0<R.length:=ti.2 a;have q:0<nv R:=yfq e a (d a)
 have m:half R=sg (nv R) (5*10^(R.length-1)):=by have:=yro R [53] R.length e bL d (by intro _;decide) cm pp;rw[C7,xV,oU] at this;exact this
 have c:10^R.length=2*(5*10^(R.length-1)):=by
  conv=>lhs;rw[show R.length=R.length-1+1 by omega,jM]
  omega
 have r:nv R*E≠0:=L9 (xG q b)
 have l:(10^R.length*E<2*(nv R*E))↔5*10^(R.length-1)<nv R:=by rw[c,fB,Nat.mul_lt_mul_left bL,Nat.mul_lt_mul_right b]
 have k:(2*(nv R*E)=10^R.length*E)↔nv R=5*10^(R.length-1):=by rw[c,fB,Nat.mul_right_inj bL,Nat.mul_left_inj aG]
 have j:(10^R.length*E<=2*(nv R*E))↔5*10^(R.length-1)<=nv R:=by rw[c,fB,Nat.mul_le_mul_left_iff bL,Nat.mul_le_mul_right_iff b]
 unfold up ups;rw[bv a,yom K o,m];simp only[l,k,j,r,tq,not_false_eq_true,nJ,gA];have i:(0<sg (nv R) (5*10^(R.length-1)))↔5*10^(R.length-1)<nv R:=yd8;have g:(sg (nv R) (5*10^(R.length-1))=0)↔nv R=5*10^(R.length-1):=yd8;have f:(0<=sg (nv R) (5*10^(R.length-1)))↔5*10^(R.length-1)<=nv R:=yd8;simp only[i,g,f]
def ysv (n:Bool) (l:Bs) (x k way:Int) (h:right l x=true) (t:0<=way/\way<=5) (u: -100000<=k/\k<=100000) (a:(zR n l x k way).e =0):
 (zR n l x k way).n =n/\right (zR n l x k way).l (zR n l x k way).x =true/\vv (zR n l x k way).l (zR n l x k way).x =rnd n way (vv l x) (unit k)*unit k:=by
 have hx:=sj h;rw[zR,bT ⟨h,t.1,t.2,u.1,u.2⟩] at a ⊢;have y:oT l x=l.length+x:=by rw[oT,bT h]
 rw[y] at a ⊢;by_cases b:l≠[]/\(l.length:Int)+x+k<l.length
 ·rw[bT b] at a ⊢;obtain⟨f,M⟩:=b;have hd:=yu h;have H:=yql h;by_cases z:(l.length:Int)+x+k<0
  · -- all of it is taken away
   have hb:=XS h f
   have hU:10*vv l x<10*(unit k / 10)+10/\10*vv l x<unit k:=by
    have e:unit k=10*10^(lift-k-1).toNat :=by unfold unit;rw[show(lift-k).toNat =(lift-k-1).toNat +1 by unfold lift;omega,jM,fM]
    have L:10^((l.length:Int)+x+lift).toNat <=10^(lift-k-1).toNat :=hJ bL (by unfold lift;omega);omega
   have hV:0<vv l x:=ysf h f;have hq:vv l x / unit k=0:=t6 aG;have q:vv l x % unit k=vv l x:=o0 aG
   have r:up n [] (48::l) way=ups n way 0 (vv l x) (unit k):=by
    have D:half (48::l)= -1:=by rw[ytt];simp
    unfold up ups;rw[bv cn,D];have G: ¬ unit k<2*vv l x:=aG;have F: ¬ 2*vv l x=unit k:=aG;have E: ¬ unit k<=2*vv l x:=aG;have a4:vv l x≠0:=aG;simp[G,F,E,a4]
   have hcut:cut n l x ((l.length:Int)+x+k) way=mk n (if ups n way 0 (vv l x) (unit k)=true then[49] else[]) (-k):=by have C:more []=[49]:=bL;unfold cut;simp only[bT z,show((l.length:Int)+x+k).toNat =0 by omega,wh,r,C];congr 1;omega
   rw[hcut] at a ⊢;obtain⟨o,j,i⟩:=ycr n _ (-k) (by split<;>decide) aG a;refine⟨o,j,i.trans ?_⟩;rw[rnd,hq,q,iR];have e:10^(-k+lift).toNat =unit k:=by unfold unit;congr 2;omega
   rw[e];split
   ·have:nv [49]=1:=bL;rw[this]
   ·rw[zy]
  ·obtain⟨K,B⟩: ∃ K:Nat,(l.length:Int)+x+k=K:=⟨((l.length:Int)+x+k).toNat,by omega⟩;obtain⟨m,hm⟩:=bx (l.length-K:Nat);have N:(m:Int)= -(x+k):=aG;have d:(l.drop K).length =m:=by rw[rS,hm]
   have I:l.drop K≠[]:=fun e=>by rw[e] at d;simp at d;omega
   have w:dD (l.drop K)=true:=by rw[dD,na] at hd ⊢;exact fun c b=>hd c (LK b)
   have g:dD (l.take K)=true:=zt hd K
   have A:Ir (l.drop K):=by intro _ e;refine H f ?_;rw[yac,d] at e;rw[<-e];congr 1;omega
   have v:0<10^(x+lift).toNat :=zm cn;have hU:unit k=10^m*10^(x+lift).toNat :=by unfold unit;rw[<-Nat.pow_add];congr 1;unfold lift;omega
   have hV:vv l x=nv (l.take K)*unit k+nv (l.drop K)*10^(x+lift).toNat :=by
    unfold vv;conv=>lhs;rw[<-List.take_append_drop K l]
    rw[Ca,d,iW,hU,fB]
   have s:nv (l.drop K)*10^(x+lift).toNat <unit k:=by rw[hU];have:=K6 w;rw[d] at this;exact jd this v
   have hq:vv l x / unit k=nv (l.take K):=by rw[hV,fM,JS (ybp k),t6 s,ms]
   have q:vv l x % unit k=nv (l.drop K)*10^(x+lift).toNat :=by rw[hV,fM,yeu,o0 s]
   have r:up n (l.take K) (l.drop K) way=ups n way (vv l x / unit k) (vv l x % unit k) (unit k):=by rw[hq,q,hU,<-d];exact ypT n way _ _ g w I A _ v
   have hcut:cut n l x ((l.length:Int)+x+k) way=mk n (if ups n way (vv l x / unit k) (vv l x % unit k) (unit k)=true then more (l.take K) else l.take K) (-k):=by unfold cut;rw[B];simp only[bv (show ¬ ((K:Int)<0) by omega),jJ,r];congr 1;omega
   rw[hcut] at a ⊢;obtain⟨o,j,i⟩:=ycr n _ (-k) (by split;exact(yeq _ g).2;exact g) aG a;refine⟨o,j,i.trans ?_⟩;have e:10^(-k+lift).toNat =unit k:=by unfold unit;congr 2;omega
   rw[e,rnd];congr 1;split
   ·rw[(yeq _ g).1,hq]
   ·rw[hq,ms]
 ·rw[bv b] at a ⊢;refine⟨rfl,h,?_⟩;show vv l x=_;by_cases f:l=[]
  ·rw[f,yir];have:=yhP n way 0 (unit k) (ybp k);rw[qo] at this;rw[this,qo]
  ·have J:0<=x+k:=by
    have: ¬ ((l.length:Int)+x+k<l.length):=fun e=>b ⟨f,e⟩;omega
   have e:vv l x=nv l*10^(x+k).toNat *unit k:=by unfold vv unit;rw[fB,<-Nat.pow_add];congr 2;unfold lift;omega
   conv=>lhs;rw[e]
   rw[e,yhP _ _ _ _ (ybp k)]
end Dc

namespace Fl
open Go
def yhJ (N:Nat):Dc.nv (Lib.decDigits N)=N:=(Na.ypH N).2.1
def ycK (N:Nat):Dc.dD (Lib.decDigits N)=true:=(Dc.RN N).1
def ymV {N k:Nat} (h:N<10^(k+1)):(Lib.decDigits N).length <=k+1:=(Na.ycL k N h).2
def yaT (x:Nat) (h:kind x<3):V (x % 9223372036854775808)=mant x*2^(expn x+1074).toNat /\x % 9223372036854775808<9218868437227405312:=by
 have f:x % 9223372036854775808 / 4503599627370496=expo x:=by rw[expo];omega
 have d:x % 9223372036854775808 % 4503599627370496=frac x:=by rw[frac];omega
 have j:=yaC x
 have c:expo x≠2047:=by intro e;unfold kind at h;rw[bT e] at h;split at h<;>omega
 have g:=sz (x % 9223372036854775808) 4503599627370496;rw[f,d] at g;have i:=yck x;refine⟨?_,by omega⟩;rw[V,f,d];by_cases b:expo x=0
 ·have a:kind x<2:=by unfold kind;rw[bv c,bv aG];split<;>omega
  rw[bT b,mant,bv aG,bT a,expn,bv aG,bT a,b];rfl
 ·have a:kind x=2:=by unfold kind;rw[bv c,bT aG]
  rw[bv b,mant,bT a,expn,bT a];congr 2;omega
def n309:Nat:=309
def n800:Nat:=800
def n971:Nat:=971
def ymJ:2^54*2^n971<=10^n309:=tX
def yuV:2^54*5^(low+1)<=10^n800:=tX
def yma {N c k:Nat} (h:N<c) (a:c<=10^k) (b:0<k):(Lib.decDigits N).length <=k:=by obtain⟨d,rfl⟩: ∃ d,k=d+1:=⟨k-1,by omega⟩;exact ymV (eR h a)
def yiX {m k K:Nat} (hm:m<2^54) (a:k<=K) (b:K=low+1):(Lib.decDigits (m*5^k)).length <=800:=by subst b;have c:m*5^k<2^54*5^(low+1):=eR (jd hm (fp bL)) (nS _ (hJ bL a));exact yma (k:=n800) c yuV bL
def ylQ {n k:Nat} (hn:n<2^54) (a:k<=n971):(Lib.decDigits (n*2^k)).length <=309:=by have b:n*2^k<2^54*2^n971:=eR (jd hn (fp bL)) (nS _ (hJ bL a));exact yma (k:=n309) b ymJ bL
def ydR (s:Bool) (l:Dc.Bs) (y:Int) (hd:Dc.dD l=true) (hl:l.length<=1000) (b: -50000<=y/\y<=50000):(Dc.mk s l y).e =0/\(Dc.mk s l y).l.length <=l.length:=by
 have e:=Dc.yff l;have d:=Dc.Tf l;have c:=Dc.ycv l;by_cases a:Dc.core l=[]
 ·rw[Dc.EA hd a];exact⟨rfl,iH _⟩
 ·rw[Dc.Kd hd a ((Dc.ysS (y+Dc.tz l) hd a).2 ⟨by omega,by omega,by omega⟩)];exact⟨rfl,by show(Dc.core l).length <=l.length;omega⟩
structure Is (r:Dc.Res) (s:Bool) (n:Nat) (e:Int):Prop where
 ok:r.e=0
 sign:r.n=s
 right:Dc.right r.l r.x=true
 worth:Dc.vv r.l r.x*2^(low+1)=n*2^(e+low+1).toNat *10^Dc.lift
def yo3 (s:Bool) (n:Nat) (e:Int) (hn:n<2^54) (A: -1075<=e/\e<=971):Is (of s n e) s n e:=by
 by_cases q:0<=e
 ·have f:of s n e=Dc.mk s (Lib.decDigits (n*2^e.toNat)) 0:=by rw[of,bT q]
  have hl:=ylQ hn (show e.toNat<=n971 by unfold n971;omega);obtain⟨b,r⟩:=ydR s _ 0 (ycK (n*2^e.toNat)) aG aG;obtain⟨j,i,g⟩:=Dc.ycr s _ 0 (ycK (n*2^e.toNat)) aG b;rw[f];refine⟨b,j,i,?_⟩;rw[g,yhJ,show((0:Int)+(Dc.lift:Int)).toNat =Dc.lift by omega,show(e+(low:Int)+1).toNat =e.toNat+(low+1) by omega,lR 2 e.toNat (low+1),<-Nat.mul_assoc n,qV]
 ·obtain⟨a,t⟩: ∃ a:Nat,e= -(a:Int):=⟨(-e).toNat,by omega⟩;subst t
  have f:of s n (-(a:Int))=Dc.mk s (Lib.decDigits ((ov a n).1 *5^(ov a n).2)) (-((ov a n).2 :Int)):=by rw[of,bv q,Int.neg_neg,jJ]
  obtain⟨w,v⟩:=ydV a n;have o:=yte a n;obtain⟨m,hm⟩:=bx ((ov a n).1);obtain⟨k,l⟩: ∃ m,m=(ov a n).2 :=⟨_,rfl⟩;rw[<-hm,<-l] at f o;rw[<-hm] at w;rw[<-l] at v;have z:low=1074:=rfl;have y:Dc.lift=200000:=rfl;have hl:=yiX (m:=m) (k:=k) (K:=low+1) aG aG rfl;obtain⟨b,r⟩:=ydR s _ (-(k:Int)) (ycK (m*5^k)) aG aG;obtain⟨j,i,g⟩:=Dc.ycr s _ (-(k:Int)) (ycK (m*5^k)) aG b;rw[f];refine⟨b,j,i,?_⟩;obtain⟨c,u⟩: ∃ c,Dc.lift=k+c:=⟨Dc.lift-k,by omega⟩;obtain⟨d,hd⟩: ∃ d,low+1=a+d:=⟨low+1-a,by omega⟩;rw[g,yhJ,show(-(k:Int)+(Dc.lift:Int)).toNat =c by omega,show(-(a:Int)+(low:Int)+1).toNat =d by omega,hd,u,lR,lR];have x:(10:Nat)^k=2^k*5^k:=by rw[<-Nat.mul_pow]
  rw[x]
  calc m*5^k*10^c*(2^a*2^d)=(m*2^a)*5^k*10^c*2^d:=ycy
   _=(n*2^k)*5^k*10^c*2^d:=by rw[o]
   _=n*2^d*(2^k*5^k*10^c):=ycy
def yl3 (x:Nat) (h:kind x<3):Is (of (neg x) (mant x) (expn x)) (neg x) (mant x) (expn x)/\Dc.vv (of (neg x) (mant x) (expn x)).l (of (neg x) (mant x) (expn x)).x *2^low=V (x % 9223372036854775808)*10^Dc.lift:=by have hm:=VS x;have c:=KU x;have hi:=yo3 (neg x) (mant x) (expn x) aG aG;refine⟨hi,?_⟩;have a:=hi.worth;have b:low=1074:=rfl;rw[show(expn x+(low:Int)+1).toNat =(expn x+1074).toNat +1 by omega,lR 2 low 1,lR 2 (expn x+1074).toNat 1,<-Nat.mul_assoc,<-Nat.mul_assoc,qV _ (2^1) (10^Dc.lift),<-(yaT x h).1] at a;exact KV bL a
def bits (l:Dc.Bs) (x:Int):Nat:=
 if 0<=x then rd (Dc.nv l*10^x.toNat) 0 false
 else rd (Dc.nv l*2^(Na.bitLen (10^(-x).toNat)+70) / 10^(-x).toNat) (-((Na.bitLen (10^(-x).toNat)+70:Nat):Int)) (decide (Dc.nv l*2^(Na.bitLen (10^(-x).toNat)+70) % 10^(-x).toNat ≠0))
def ygR {n b k:Nat} (hb:0<b) (e:n=0∨54<=Na.bitLen (n*2^k / b)):Near (n*2^low) b (rd (n*2^k / b) (-(k:Int)) (decide (n*2^k % b≠0))):=by
 have c:=sz (n*2^k) b;have g:=kk (n*2^k) hb;have i:low=1074:=rfl;refine PS (p:=low) (q:=k) hb aG (fun h=>?_) (fun h=>?_) (fun h=>?_)
 ·rcases e with a|a
  ·rw[a,qo] at h;simp at h
  ·exact a
 ·have a:n*2^k % b=0:=by have:=xt h;simpa using this
  rw[a,ms] at c
  calc n*2^low*2^k=n*2^k*2^low:=qV _ _ _
   _=b*(n*2^k / b)*2^low:=by rw[c]
   _=n*2^k / b*2^low*b:=by rw[fM b,qV]
 ·have a:n*2^k % b≠0:=vx h;obtain⟨t,f⟩:=bx (n*2^k / b);rw[<-f] at c ⊢;have d:0<2^low:=fp bL;rw[qV n,qV t,qV (t+1)];constructor
  ·exact jd (by rw[fM];omega) d
  ·refine jd ?_ d;rw[iW,nW,fM t];omega
def yjv {n b k:Nat} (hn:0<n) (hb:0<b) (m:Na.bitLen b+54<=k+Na.bitLen n):54<=Na.bitLen (n*2^k / b):=by
 obtain⟨q,b2,o⟩:=rh (n:=b) aG;obtain⟨f,l,j⟩:=rh (n:=n) aG
 have hq:2^53<=n*2^k / b:=by rw[zj hb];have d:2^53*b<=2^53*2^Na.bitLen b:=nS _ (lY b2);have c:2^(Na.bitLen n-1)*2^k<=n*2^k:=iS _ f;rw[<-Nat.pow_add] at d c;exact dE d (dE (hJ bL aG) c)
 obtain⟨i,e,g⟩:=rh (n:=n*2^k / b) (by
  have:0<2^53:=bL
  omega)
 have:=(Nat.pow_lt_pow_iff_right (a:=2) bL).1 (wx hq e);omega
def yf3 {l:Dc.Bs} {x:Int} {b:Nat} (hx: -100000<=x):Near (Dc.vv l x*2^low) (10^Dc.lift) b↔(if 0<=x then Near (Dc.nv l*10^x.toNat*2^low) 1 b else Near (Dc.nv l*2^low) (10^(-x).toNat) b):=by
 have d: ∀ X D c:Nat,0<c->(Near (X*c) (D*c) b↔Near X D b):=fun X D c a=>by
  have m: ∀ z:Nat,z*(D*c)<2*(X*c)↔z*D<2*X:=fun z=>by rw[<-Nat.mul_assoc,<-Nat.mul_assoc];exact⟨fun h=>Hd h,fun h=>jd h a⟩
  have j: ∀ z:Nat,z*(D*c)=2*(X*c)↔z*D=2*X:=fun z=>by rw[<-Nat.mul_assoc,<-Nat.mul_assoc];exact⟨fun h=>KV a h,fun h=>by rw[h]⟩
  have i: ∀ z:Nat,2*(X*c)<z*(D*c)↔2*X<z*D:=fun z=>by rw[<-Nat.mul_assoc,<-Nat.mul_assoc];exact⟨fun h=>Hd h,fun h=>jd h a⟩
  have g: ∀ z:Nat,2*(X*c)=z*(D*c)↔2*X=z*D:=fun z=>by rw[<-Nat.mul_assoc,<-Nat.mul_assoc];exact⟨fun h=>KV a h,fun h=>by rw[h]⟩
  unfold Near;rw[m,j,i,g]
 have n:Dc.lift=200000:=rfl;by_cases e:0<=x
 ·rw[bT e,<-d (Dc.nv l*10^x.toNat*2^low) 1 (10^Dc.lift) (fp bL),nW,Dc.vv,show(x+(Dc.lift:Int)).toNat =x.toNat+Dc.lift by omega,lR,<-Nat.mul_assoc,qV _ (10^Dc.lift)]
 ·obtain⟨k,f⟩:=bx ((-x).toNat :Nat);obtain⟨c,a⟩: ∃ c,Dc.lift=k+c:=⟨Dc.lift-k,by omega⟩;rw[bv e,<-f,<-d (Dc.nv l*2^low) (10^k) (10^c) (fp bL),<-Nat.pow_add,<-a,Dc.vv,show(x+(Dc.lift:Int)).toNat =c by omega,qV]
def yfG (l:Dc.Bs) (x:Int) (hx: -100000<=x):Near (Dc.vv l x*2^low) (10^Dc.lift) (bits l x):=by
 rw[yf3 hx];have b:low=1074:=rfl;by_cases a:0<=x
 ·rw[bT a,bits,bT a];exact PS (p:=low) (q:=0) bL aG (fun h=>by cases h) (fun _=>by rw[xV,oU]) (fun h=>by cases h)
 ·rw[bv a,bits,bv a];refine ygR (fp bL) ?_;by_cases hn:Dc.nv l=0
  ·exact Or.inl hn
  ·refine Or.inr (yjv aG (fp bL) ?_);have:=(rh hn).2.2;omega
def Xu {l:Dc.Bs} {x:Int} {b:Nat} (hx: -100000<=x) (h:Near (Dc.vv l x*2^low) (10^Dc.lift) b):b=bits l x:=
 UJ (fp bL) (fp bL) rfl h (yfG l x hx)
def ymm (x:Nat) (h:kind x<3):bits (of (neg x) (mant x) (expn x)).l (of (neg x) (mant x) (expn x)).x =x % 9223372036854775808:=by obtain⟨hi,a⟩:=yl3 x h;have hb:=yfP (b:=x % 9223372036854775808) (D:=10^Dc.lift) (lY (yaT x h).2) (fp bL);rw[<-a] at hb;exact(Xu (Dc.sj hi.right).1 hb).symm
end Fl

namespace Fl
def yv8:bits [] 0=0:=by rw[bits,bT aG,Dc.zy,qo,rd,bT rfl]
def ygk:Nat:=2046
def ys9:V 9218868437227405312=4503599627370496*2^ygk:=za ygk 4503599627370496 (Or.inr ⟨cm,by decide⟩)
def yrG:V 1=1:=by have:=za 0 1 (Or.inl ⟨rfl,by decide⟩);simpa using this
def yqi {l:Dc.Bs} {x:Int} {k:Nat} (hx: -100000<=x) (b:x<0) (hn:0<Dc.nv l) (a:Na.bitLen (10^(-x).toNat)+54<=k+Na.bitLen (Dc.nv l)):
 rd (Dc.nv l*2^k / 10^(-x).toNat) (-(k:Int)) (decide (Dc.nv l*2^k % 10^(-x).toNat ≠0))=bits l x:=by
 refine Xu hx ?_;rw[yf3 hx,bv aG];exact ygR (fp bL) (Or.inr (yjv hn (fp bL) a))
def ylx {l:Dc.Bs} {x:Int} (a:0<=x):rd (Dc.nv l*10^x.toNat) 0 false=bits l x:=by rw[bits,bT a]
def vC (s:Bool):Nat:=if s then 9223372036854775808 else 0
end Fl

namespace Fl
end Fl

namespace Fl
open Go
end Fl

namespace Fl
open Go
end Fl

namespace Fl
open Go
def ypi (j m:Nat) (hj:j<=2045) (d:4503599627370496<=m) (e:m<9007199254740992):kind (j*4503599627370496+m)=2/\mant (j*4503599627370496+m)=m/\expn (j*4503599627370496+m)=(j:Int)-1074/\
 neg (j*4503599627370496+m)=false/\V (j*4503599627370496+m)=m*2^j/\j*4503599627370496+m<9218868437227405312:=by
 have b:expo (j*4503599627370496+m)=j+1:=by unfold expo;omega
 have c:frac (j*4503599627370496+m)=m-4503599627370496:=by unfold frac;omega
 have a:kind (j*4503599627370496+m)=2:=by unfold kind;rw[b,bv aG,bT aG]
 refine⟨a,by rw[mant,bT a,c];omega,by rw[expn,bT a,b];omega,eL aG,za j m (Or.inr ⟨d,by omega⟩),by omega⟩
def yvq (D:Nat) (d:0<D) (c:D<9007199254740992): ∃ t:Nat,t<=52/\4503599627370496<=D*2^t/\D*2^t<9007199254740992:=by
 obtain⟨b,a,e⟩:=rh (n:=D) aG
 have hl:Na.bitLen D<=53:=by
  rcases qt 53 (Na.bitLen D) with h|h
  ·have:2^53<=2^(Na.bitLen D-1):=hJ bL aG;omega
  ·exact h
 refine⟨53-Na.bitLen D,by omega,?_,?_⟩
 ·have:=iS (2^(53-Na.bitLen D)) b;rw[<-Nat.pow_add,show Na.bitLen D-1+(53-Na.bitLen D)=52 by omega] at this;exact this
 ·have:=jd a (show 0<2^(53-Na.bitLen D) from fp bL);rw[<-Nat.pow_add,show Na.bitLen D+(53-Na.bitLen D)=53 by omega] at this;exact this
end Fl

namespace Fl
open Go
def ylK {n:Nat} {e:Int} (hn:n≠0) (k:Nat) (g:(k:Int)=ulp n e-e) (d:0<k):n / 2^k<9007199254740992/\(-1074<ulp n e->4503599627370496<=n / 2^k):=by
 obtain⟨b,b2,i⟩:=rh hn;have a:0<2^k:=fp bL;have f:ulp n e=max (e+(Na.bitLen n:Int)-53) (-1074):=rfl;constructor
 ·have j:n / 2^k<2^53:=by
   rw[wm a,<-Nat.pow_add];exact eR b2 (hJ bL aG)
  omega
 ·intro hj
  have c:2^52<=n / 2^k:=by rw[zj a,<-Nat.pow_add];exact dE (hJ bL aG) b
  omega
def yl9 {n:Nat} {e:Int} (hn:n≠0) (t:Nat) (d:(t:Int)=e-ulp n e):n*2^t<9007199254740992/\(-1074<ulp n e->4503599627370496<=n*2^t):=by
 obtain⟨a,b2,f⟩:=rh hn;have c:ulp n e=max (e+(Na.bitLen n:Int)-53) (-1074):=rfl;constructor
 ·have g:n*2^t<2^53:=by
   have:n*2^t<2^Na.bitLen n*2^t:=jd b2 (fp bL);rw[<-Nat.pow_add] at this;exact eR this (hJ bL aG)
  omega
 ·intro hj
  have b:2^52<=n*2^t:=by have:2^(Na.bitLen n-1)*2^t<=n*2^t:=iS _ a;rw[<-Nat.pow_add] at this;exact dE (hJ bL aG) this
  omega
def yg0 {n:Nat} {e:Int} (hn:n≠0) (more:Bool):rdm n (ulp n e-e) more<=9007199254740992/\(-1074<ulp n e->4503599627370496<=rdm n (ulp n e-e) more):=by
 by_cases b:ulp n e-e<=0
 ·rw[rdm,bT b];obtain⟨c,a⟩:=yl9 (e:=e) hn (-(ulp n e-e)).toNat aG;exact⟨by omega,a⟩
 ·rw[rdm,bv b];obtain⟨c,a⟩:=ylK (e:=e) hn (ulp n e-e).toNat aG aG;have:(upw n (ulp n e-e).toNat more).toNat <=1:=by cases upw n (ulp n e-e).toNat more<;>simp
  exact⟨by omega,fun h=>by have:=a h;omega⟩
def ymQ {n:Nat} {e:Int} {more:Bool} {m:Nat} {u:Int} (hn:n≠0) (a:u=ulp n e) (hm:m=rdm n (u-e) more):
 rd n e more=if m<4503599627370496 then m else if m=9007199254740992 then(if 2047<=u+1076 then 9218868437227405312 else(u+1076).toNat *4503599627370496) else(if 2047<=u+1075 then 9218868437227405312 else(u+1075).toNat *4503599627370496+m-4503599627370496):=by
 rw[rd,bv hn,<-a,<-hm];obtain⟨c,b⟩:=yg0 (e:=e) hn more;rw[<-a,<-hm] at c;rw[<-a,<-hm] at b;have d: -1074<=u:=by rw[a,ulp];omega
 by_cases c1:m<4503599627370496
 ·rw[bT c1]
  have:u= -1074:=by
   rcases Int.lt_or_le (-1074) u with h|h
   ·have:=b h;omega
   ·omega
  rw[this];omega
 ·rw[bv c1];by_cases c2:m=9007199254740992
  ·rw[bT c2];by_cases c3:2047<=u+1076
   ·rw[bT c3];omega
   ·rw[bv c3];omega
  ·rw[bv c2];by_cases c3:2047<=u+1075
   ·rw[bT c3];omega
   ·rw[bv c3];omega
def yoV (n:Nat) (e:Int) (more:Bool):rd n e more<=9218868437227405312:=by rw[rd];split<;>omega
end Fl

namespace Fl
open Go
def n331:Nat:=331
def n310:Nat:=310
def yrX:2*2^low<=10^n331:=tX
def ytJ:4503599627370496*2^ygk<=10^n310*2^low:=tX
def ysq {l:Dc.Bs} {x:Int} (h:Dc.right l x=true) (e:l≠[]) (f:(l.length:Int)+x < -330):bits l x=0:=by
 have hx:=(Dc.sj h).1;refine(Xu hx ⟨by decide,Or.inl rfl,Or.inr (Or.inl ?_)⟩).symm;have hv:=(Dc.XS h e).2;have hl:Dc.lift=200000:=rfl;obtain⟨c,a⟩: ∃ c,Dc.lift=c+n331:=⟨Dc.lift-n331,by unfold n331;omega⟩;have g:n331=331:=rfl;have d:Dc.vv l x<10^c:=eR hv (hJ bL aG);rw[iR,yfb,yrG,iR,nW,a,lR];have b:2*(Dc.vv l x*2^low)=Dc.vv l x*(2*2^low):=by rw[vf]
 rw[b];exact wx (nS _ yrX) (jd d (fp bL))
def ywr {l:Dc.Bs} {x:Int} (h:Dc.right l x=true) (d:l≠[]) (e:310<(l.length:Int)+x):bits l x=9218868437227405312:=by
 have hx:=(Dc.sj h).1;refine(Xu hx ⟨cm,Or.inr (Or.inl ?_),Or.inl rfl⟩).symm;have hv:=(Dc.XS h d).1;have hl:Dc.lift=200000:=rfl;have f:n310=310:=rfl
 have c:10^n310*10^Dc.lift<=Dc.vv l x:=by rw[<-Nat.pow_add];exact dE (hJ bL aG) hv
 have g:V (9218868437227405312-1)<V 9218868437227405312:=V_lt bL;have a:0<10^Dc.lift:=fp bL;have b:(V (9218868437227405312-1)+V 9218868437227405312)*10^Dc.lift<2*(V 9218868437227405312)*10^Dc.lift:=jd aG a;refine eR b ?_;rw[fB];refine nS _ ?_;rw[ys9];refine dE (iS _ ytJ) ?_;rw[qV];exact iS _ c
def yof {n c:Nat} {e:Int} {more:Bool} (h:54<=Na.bitLen (n / 2^c)):rd (n / 2^c) (e+c) (more || decide (n % 2^c≠0))=rd n e more:=by
 have v:54<=Na.bitLen n:=by
  have A:0<2^c:=fp bL;have l:n / 2^c≠0:=by intro u;rw[u] at h;simp[Na.bitLen] at h
  obtain⟨B, -, -⟩:=rh l;have C:2^53<=2^(Na.bitLen (n / 2^c)-1):=hJ bL aG;have z:=N4 n (2^c);rcases qt (Na.bitLen n) 54 with h'|h'
  ·obtain⟨-,b2, -⟩:=rh (n:=n) aG;have:2^Na.bitLen n<=2^53:=hJ bL aG;omega
  ·exact h'
 obtain⟨p,q,r⟩: ∃ p q:Nat,(p:Int)-q=e+1074:=⟨(e+1074).toNat,(-(e+1074)).toNat,by omega⟩;have hq:0<2^q:=fp bL;have t:0<2^p:=fp bL;have g:0<2*2^q:=aG;have y:=sz n (2^c);have x:=kk n (show 0<2^c from fp bL);obtain⟨N,f⟩:=bx (2*n+more.toNat);have i: ∀ a:Nat,a*2^p*(2*2^q)=2*a*(2^p*2^q):=fun a=>by simp only[fB,fM,vf]
 have d:N*2^p*2^q=N*(2^p*2^q):=fB _ _ _;have b:0<2^p*2^q:=xG t hq
 have m:Near (N*2^p) (2*2^q) (rd n e more):=by
  refine PS g r (fun _=>v) (fun hm=>?_) (fun hm=>?_)
  ·rw[i,d,f,hm];rfl
  ·rw[i,i,d,f,hm];exact⟨jd (by show 2*n<2*n+1;omega) b,jd (by show 2*n+1<_;omega) b⟩
 have o:Near (N*2^p) (2*2^q) (rd (n / 2^c) (e+c) (more || decide (n % 2^c≠0))):=by
  have j: ∀ a:Nat,a*2^(p+c)*(2*2^q)=2*(2^c*a)*(2^p*2^q):=fun a=>by rw[lR];simp only[fB,fM,vf]
  refine PS (p:=p+c) (q:=q) g aG (fun _=>h) (fun hm=>?_) (fun hm=>?_)
  ·rw[Ss] at hm;have l:n % 2^c=0:=by have:=xt hm.2;omega
   rw[j,d,f,hm.1,show 2^c*(n / 2^c)=n by omega];rfl
  ·rw[j,j,d]
   have s:more=true∨n % 2^c≠0:=by rw[S6] at hm;exact hm.imp id vx
   have w:2*n<=N/\N<=2*n+1/\(more=true->N=2*n+1):=by rw[f];cases more<;>simp
   refine⟨jd ?_ b,jd ?_ b⟩
   ·rcases s with k|k
    ·have:=w.2.2 k;omega
    ·omega
   ·rw[lW,oU,lW];omega
 exact UJ g g rfl o m
def tenA (x:Int):Nat:=if 0<=x then 10^x.toNat else 1
def tenB (x:Int):Nat:=if 0<=x then 1 else 10^(-x).toNat
def ydZ (x:Int):0<tenB x:=by
 unfold tenB;split
 ·decide
 ·exact fp bL
def ypL {l:Dc.Bs} {x:Int} (hx: -100000<=x):Near (Dc.nv l*tenA x*2^low) (tenB x) (bits l x):=by
 have h:=(yf3 hx).1 (yfG l x hx);unfold tenA tenB;by_cases a:0<=x
 ·rw[bT a] at h;rw[bT a,bT a];exact h
 ·rw[bv a] at h;rw[bv a,bv a,oU];exact h
structure Pw (x:Int) (P:Nat) (e:Int) (all:Bool):Prop where
 sure:all=true-> ∀ p q:Nat,(p:Int)-q=e->P*2^p*tenB x=tenA x*2^q
 low: ∀ p q:Nat,(p:Int)-q=e->P*2^p*tenB x<=tenA x*2^q
 high: ∀ p q:Nat,(p:Int)-q=e->tenA x*2^q<=(P+1)*2^p*tenB x
def ybz (n:Nat) (e:Int) (p q:Nat) (h:(p:Int)-q=e):Near (n*2^(p+low)) (2^q) (rd n e false):=
 PS (p:=p+low) (q:=q) (fp bL) (by unfold low;omega) (fun h=>by cases h) (fun _=>rfl) (fun h=>by cases h)
def yj9 {l:Dc.Bs} {x:Int} {m P:Nat} {e:Int} {all:Bool} (hx: -100000<=x) (hm:Dc.nv l=m) (d:Pw x P e all) (h:all=true∨rd (P*m+m) e false=rd (P*m) e false):rd (P*m) e false=bits l x:=by
 obtain⟨p,q,a⟩: ∃ p q:Nat,(p:Int)-q=e:=⟨e.toNat,(-e).toNat,by omega⟩;have hn:=ypL (l:=l) hx;rw[hm] at hn;have f:=ybz (P*m) e p q a;have g:=ybz (P*m+m) e p q a;have hq:0<2^q:=fp bL;have c: ∀ N:Nat,N*m*2^(p+low)*tenB x=N*2^p*tenB x*(m*2^low):=fun N=>by rw[lR];simp only[fB,fM,vf]
 have b:m*tenA x*2^low*2^q=tenA x*2^q*(m*2^low):=ycy;rcases h with h|h
 ·exact UJ hq (ydZ x) (by rw[c,b,d.sure h p q a]) f hn
 ·have j:=yhr hq (ydZ x) (by rw[c,b];exact iS _ (d.low p q a)) f hn
  have i:=yhr (ydZ x) hq (by rw[show P*m+m=(P+1)*m by rw[iW,nW],c,b];exact iS _ (d.high p q a)) hn g
  rw[h] at i;omega
def yla {N D s:Nat} (a:N=D*2^s) (g:D<9007199254740992) (m:s<=900):V (rd N 0 false)=N*2^low/\rd N 0 false<9218868437227405312:=by
 have l:low=1074:=rfl;have hn:=ybz N 0 0 0 bL;rw[iR] at hn;by_cases i:D=0
 ·rw[a,i,qo,rd,bT rfl];exact⟨by rw[yfb,qo],by decide⟩
 ·obtain⟨t,j,e,d⟩:=yvq D aG g;obtain⟨-, -, -, -,f,k⟩:=ypi (low-t+s) (D*2^t) aG e d
  have hV:V ((low-t+s)*4503599627370496+D*2^t)=N*2^low:=by rw[f,a,fB,fB,<-Nat.pow_add,<-Nat.pow_add];congr 2;omega
  have c:=yfP (b:=(low-t+s)*4503599627370496+D*2^t) (D:=1) aG bL;rw[hV,oU] at c;rw[UJ (D:=2^0) (D':=1) bL bL (by rw[xV]) hn c];exact⟨hV,by omega⟩
def ydD {x:Nat} (hx:x<9218868437227405312):kind x<3/\neg x=false/\V x=mant x*2^(expn x+1074).toNat :=by
 have a:kind x<3:=by
  unfold kind;rw[bv (show expo x≠2047 by unfold expo;omega)];split
  ·omega
  ·split<;>omega
 have:=(yaT x a).1;rw[o0 aG] at this;exact⟨a,eL aG,this⟩
def ykl {x y X Y:Nat} (hx:x<9218868437227405312) (c:y<9218868437227405312) (i:V x=X*2^low) (g:V y=Y*2^low):rd (mant x*mant y) (expn x+expn y) false=rd (X*Y) 0 false:=by
 obtain⟨-, -,a⟩:=ydD hx;obtain⟨-, -,b⟩:=ydD c;have l:=KU x;have j:=KU y;obtain⟨p,d⟩:=bx ((expn x+1074).toNat :Nat);obtain⟨q,hq⟩: ∃ p:Nat,p=(expn y+1074).toNat :=⟨_,rfl⟩;rw[<-d,i] at a;rw[<-hq,g] at b;have hn:=ybz (X*Y) 0 0 0 bL;rw[iR] at hn;have k:low=1074:=rfl
 have f:=PS (X:=X*Y*2^low) (D:=1) (n:=mant x*mant y) (e:=expn x+expn y) (more:=false) (p:=p+q) (q:=low) bL aG (fun h=>by cases h) (fun _=>by
  rw[oU,lR];have:X*Y*2^low*2^low=(X*2^low)*(Y*2^low):=ycy
  rw[this,a,b];simp only[fB,fM,vf]) (fun h=>by cases h)
 exact UJ (D:=1) (D':=2^0) bL bL (by rw[xV]) f hn
def RH {i:Nat} (hi:i<=22):V (rd (10^i) 0 false)=10^i*2^low/\rd (10^i) 0 false<9218868437227405312:=by have a:5^i<=5^22:=hJ bL hi;have e:(5:Nat)^22=2384185791015625:=bL;exact yla (D:=5^i) (s:=i) (by rw[<-Nat.mul_pow]) aG aG
def yaW {m:Nat} (hm:m<9007199254740992):V (rd m 0 false)=m*2^low/\rd m 0 false<9218868437227405312:=
 yla (D:=m) (s:=0) (by rw[xV,oU]) hm aG
def ynS {i:Nat} (hi:i<22):rd (mant (rd (10^i) 0 false)*mant (rd 10 0 false)) (expn (rd (10^i) 0 false)+expn (rd 10 0 false)) false=rd (10^(i+1)) 0 false:=by obtain⟨c,b⟩:=RH (i:=i) aG;obtain⟨a,b2⟩:=yaW (m:=10) bL;rw[ykl b b2 c a,jM]
def ywW {l:Dc.Bs} {x:Nat} (hm:Dc.nv l<9007199254740992) (hx:x<=22):
 rd (mant (rd (Dc.nv l) 0 false)*mant (rd (10^x) 0 false)) (expn (rd (Dc.nv l) 0 false)+expn (rd (10^x) 0 false)) false=bits l x:=by
 obtain⟨c,b⟩:=yaW hm;obtain⟨a,b2⟩:=RH hx;rw[ykl b b2 c a,<-ylx aG,jJ]
def pwE (x:Int):Int:=if x<0 then -((Na.bitLen (10^(-x).toNat):Int)+127) else(Na.bitLen (10^x.toNat):Int)-128
def pwP (x:Int):Nat:=if x<0 then 2^(Na.bitLen (10^(-x).toNat)+127) / 10^(-x).toNat else if pwE x<=0 then 10^x.toNat*2^(-pwE x).toNat else 10^x.toNat / 2^(pwE x).toNat
def pwA (x:Int):Bool:=if x<0 then false else if pwE x<=0 then true else !decide (10^x.toNat % 2^(pwE x).toNat ≠0)
def pw (x:Int):Pw x (pwP x) (pwE x) (pwA x):=by
 by_cases e:x<0
 ·obtain⟨B,g⟩:=bx (10^(-x).toNat);have s:0<B:=by rw[g];exact fp bL
  have c:tenA x=1:=by rw[tenA,bv aG]
  have d:tenB x=B:=by rw[tenB,bv aG,g]
  obtain⟨k,b⟩:=bx (Na.bitLen B+127);have r:pwE x= -(k:Int):=by rw[pwE,bT e,<-g];omega
  have f:pwP x=2^k / B:=by rw[pwP,bT e,<-g,<-b]
  have m:pwA x=false:=by rw[pwA,bT e]
  rw[r,f,m];have o:=sz (2^k) B;have n:=kk (2^k) s;refine⟨fun h=>(by cases h),fun p q a=>?_,fun p q a=>?_⟩
  ·have hq:q=p+k:=aG;rw[c,d,hq,nW,lR,qV,fM _ (2^p)];exact nS _ (ybg _ _)
  ·have hq:q=p+k:=aG;rw[c,d,hq,nW,lR,qV,fM _ (2^p)];refine nS _ ?_;rw[iW,nW,fM];omega
 ·obtain⟨A,i⟩: ∃ B,B=10^x.toNat:=⟨_,rfl⟩;have c:tenA x=A:=by rw[tenA,bT aG,i]
  have d:tenB x=1:=by rw[tenB,bT aG]
  by_cases l:pwE x<=0
  ·obtain⟨k,b⟩: ∃ k:Nat,pwE x= -(k:Int):=⟨(-pwE x).toNat,by omega⟩;have f:pwP x=A*2^k:=by rw[pwP,bv e,bT l,<-i,b];congr 2;omega
   rw[f,b]
   have j: ∀ p q:Nat,(p:Int)-q= -(k:Int)->A*2^k*2^p*tenB x=tenA x*2^q:=fun p q a=>by rw[c,d,oU,show q=k+p by omega,lR,fB]
   refine⟨fun _ p q a=>j p q a,fun p q a=>by rw[j p q a];exact cm,fun p q a=>?_⟩;rw[<-j p q a];exact iS _ (iS _ (ls _))
  ·obtain⟨k,b⟩: ∃ k:Nat,pwE x=(k:Int):=⟨(pwE x).toNat,by omega⟩;have f:pwP x=A / 2^k:=by rw[pwP,bv e,bv l,<-i,b,jJ]
   have m:pwA x=!decide (A % 2^k≠0):=by rw[pwA,bv e,bv l,<-i,b,jJ]
   have o:=sz A (2^k);have n:=kk A (show 0<2^k from fp bL);rw[f,b,m];refine⟨fun h p q a=>?_,fun p q a=>?_,fun p q a=>?_⟩
   ·have hz:A % 2^k=0:=by
     rw[Bool.not_eq_true'] at h;have:=xt h;omega
    rw[c,d,oU,show p=k+q by omega,lR,<-Nat.mul_assoc,fM (A / 2^k)];rw[show 2^k*(A / 2^k)=A by omega]
   ·rw[c,d,oU,show p=k+q by omega,lR,<-Nat.mul_assoc];exact iS _ (ybg _ _)
   ·rw[c,d,oU,show p=k+q by omega,lR,<-Nat.mul_assoc];refine iS _ ?_;rw[iW,nW,fM];omega
end Fl

namespace Dc
def yi9 (l:Bs):(core l).length <=l.length:=dE (yff l) (Tf l)
def yoP (K:Bs) (hd:dD K=true):(core (more K)).length <=max 1 K.length:=by
 by_cases d: ∀ c ∈ K,c=57
 ·rw[yjj K d];have:=(ykA (49::List.replicate K.length 48) [] [49] (List.replicate K.length 48) rfl cn (fun c a=>ybT a) cn (by intro c a;simp at a;subst a;decide) (by intro c a;simp at a;subst a;decide)).2;rw[this];simp;omega
 ·have:(more K).length <=K.length:=by
   have f:no9 K≠[]:=by
    intro e;apply d;intro c a;rw[no9,Lib.trimRightB] at e;have g:K.reverse.dropWhile (· ==57)=[]:=by simpa using e
    have b:=sI (p:=(· ==57)) (l:=K.reverse);rw[g,rm] at b;have:=na.1 (zb (l:=K.reverse) (p:=(· ==57))) c (by rw[b];simpa using a);simpa using this
   cases a:(no9 K).getLast? with
   |none=>exact absurd (by simpa using a) f
   |some c=>
    have i:0<(no9 K).length :=ti.2 f
    have hl:=yeX K
    rw[yfW a,j2,j2,List.length_dropLast,yao]
    simp;omega
  have:=yi9 (more K);omega
end Dc

namespace Fl
open Go
structure SigOk (s:Bool) (l:Dc.Bs) (x:Int) (k:Nat) (way:Int) (r:Dc.Res):Prop where
 e:r.e=0
 n:r.n=s
 right:Dc.right r.l r.x=true
 len:r.l.length<=k
 val:Dc.vv r.l r.x=Dc.rnd s way (Dc.vv l x) (Dc.unit ((k:Int)-(l.length+x)))*Dc.unit ((k:Int)-(l.length+x))
def yfH {s:Bool} {l:Dc.Bs} {x:Int} {k:Nat} {way:Int} (h:Dc.right l x=true) (z:l≠[]) (A:1<=k/\k<=100) (a:0<=way/\way<=5) (hx: -40000<=x/\x<=40000):SigOk s l x k way (Dc.sig s l x k way):=by
 have B:=Dc.xW h;have t:Dc.oT l x=l.length+x:=by rw[Dc.oT,bT h]
 have o:Dc.sig s l x k way=Dc.zR s l x ((k:Int)-(l.length+x)) way:=by
  have v:Dc.right l x=true/\0<=way/\way<=5/\1<=(k:Int):=⟨h,a.1,a.2,by omega⟩;have y:Dc.right l x=true/\0<=way/\way<=5/\ -100000<=(k:Int)-(l.length+x)/\(k:Int)-(l.length+x)<=100000:=⟨h,a.1,a.2,by omega,by omega⟩;rw[Dc.sig,bT v,Dc.zR,bT y,t];by_cases c:(l.length:Int)<=k
  ·rw[bT c,bv (by rintro ⟨-,f⟩;omega)]
  ·rw[bv c,bT ⟨z,by omega⟩];congr 1;omega
 have e:(Dc.sig s l x k way).e =0/\(Dc.sig s l x k way).l.length <=k:=by
  rw[Dc.sig,bT ⟨h,a.1,a.2,by omega⟩];by_cases c:(l.length:Int)<=k
  ·rw[bT c];exact⟨rfl,by show l.length<=k;omega⟩
  ·rw[bv c];have hd:=Dc.yu h;have d:Dc.dD (l.take k)=true:=Dc.zt hd k
   have u:Dc.cut s l x k way=Dc.mk s (if Dc.up s (l.take k) (l.drop k) way then Dc.more (l.take k) else l.take k) (x+l.length-k):=by unfold Dc.cut;simp only[bv (show ¬ ((k:Int)<0) by omega),jJ]
   rw[u]
   have w:(if Dc.up s (l.take k) (l.drop k) way then Dc.more (l.take k) else l.take k).length <=101:=by
    split
    ·have:=Dc.yiN (l.take k);rw[nn] at this;omega
    ·rw[nn];omega
   have r:(Dc.core (if Dc.up s (l.take k) (l.drop k) way then Dc.more (l.take k) else l.take k)).length <=k:=by
    split
    ·have:=Dc.yoP (l.take k) d;rw[nn] at this;omega
    ·have:=Dc.yi9 (l.take k);rw[nn] at this;omega
   have b:Dc.dD (if Dc.up s (l.take k) (l.drop k) way then Dc.more (l.take k) else l.take k)=true:=by split;exact(Dc.yeq _ d).2;exact d
   generalize (if Dc.up s (l.take k) (l.drop k) way then Dc.more (l.take k) else l.take k)=ds at w r b ⊢;have q:=ydR s ds (x+l.length-k) b aG aG;refine⟨q.1,?_⟩;by_cases g:Dc.core ds=[]
   ·rw[Dc.EA b g];exact iH _
   ·by_cases f:Dc.right (Dc.core ds) (x+l.length-k+Dc.tz ds)=true
    ·rw[Dc.Kd b g f];exact r
    ·have:=q.1;rw[Dc.R7 b g f] at this;cases this
 have n:=e.1;rw[o] at n;obtain⟨m,j,i⟩:=Dc.ysv s l x ((k:Int)-(l.length+x)) way h a aG n;rw[<-o] at m j i;exact⟨e.1,m,j,e.2,i⟩
def ywM {l:Dc.Bs} {x:Int} {k:Nat} (h:Dc.right l x=true) (b:l≠[]) (d:1<=k/\k<=100) (hx: -40000<=x/\x<=40000):
 10^(k-1)*Dc.unit ((k:Int)-(l.length+x))<=Dc.vv l x/\Dc.vv l x<10^k*Dc.unit ((k:Int)-(l.length+x)):=by
 have e:=Dc.xW h;obtain⟨a,b2⟩:=Dc.XS h b;have c:Dc.lift=200000:=rfl;unfold Dc.unit;rw[<-Nat.pow_add,<-Nat.pow_add];rw[show k-1+((Dc.lift:Int)-((k:Int)-(l.length+x))).toNat =((l.length:Int)+x-1+Dc.lift).toNat by omega,show k+((Dc.lift:Int)-((k:Int)-(l.length+x))).toNat =((l.length:Int)+x+Dc.lift).toNat by omega];exact⟨a,b2⟩
def yv4 (n:Bool) (way:Int) (V U:Nat) (hU:0<U) (d:way=0∨way=1):2*V<=2*(Dc.rnd n way V U*U)+U/\2*(Dc.rnd n way V U*U)<=2*V+U:=by
 have i:=sz V U;have g:=kk V hU;obtain⟨q,hq⟩:=bx (V / U);obtain⟨r,c⟩: ∃ q,q=V % U:=⟨_,rfl⟩;have f:U*q=q*U:=fM _ _;rw[Dc.rnd,<-hq,<-c];rw[<-hq,<-c] at i;rw[<-c] at g
 have j:Dc.ups n way q r U=true->U<=2*r:=by
  intro h;unfold Dc.ups at h;rw[fs] at h;rcases d with rfl|rfl
  ·rw[bT rfl,S6,fs] at h;rcases h.2 with a|a
   ·have:=vx a;omega
   ·have:=vx a.1;omega
  ·rw[bv bL,bT rfl] at h;exact vx h.2
 have e: ¬ Dc.ups n way q r U=true->2*r<=U:=by
  intro h;rcases qt U (2*r) with a|a
  ·exfalso;apply h;unfold Dc.ups;rcases d with rfl|rfl
   ·rw[bT rfl,fv (show r≠0 by omega),fv a];rfl
   ·rw[bv bL,bT rfl,fv (show r≠0 by omega),fv (show U<=2*r by omega)];rfl
  ·exact a
 split
 ·rename_i b
  have:=j b;rw[iW,nW];omega
 ·rename_i b
  have:=e b;rw[ms];omega
def ytq (b:Nat):V b<10000000000000000*(V (b+1)-V b)/\(0<b->V b<10000000000000000*(V b-V (b-1))):=by
 constructor
 ·obtain⟨j,m, -,hm,e,d, -⟩:=ydt b;have a:0<2^j:=fp bL;rw[e,d,iW,nW,TV];exact jd aG a
 ·intro f;obtain⟨c,rfl⟩: ∃ c,b=c+1:=⟨b-1,by omega⟩;obtain⟨j,m, -,hm,e,d, -⟩:=ydt c;have a:0<2^j:=fp bL;rw[va,e,d,show(m+1)*2^j-m*2^j=2^j by rw[iW,nW,TV]];exact jd aG a
def ysh {b d N U:Nat} (hb:b<=9218868437227405312) (hv:d*2^low=V b*10^Dc.lift) (r:10000000000000000*U<=d) (v:2*d<=2*N+U) (u:2*N<=2*d+U):Near (N*2^low) (10^Dc.lift) b:=by
 obtain⟨Q,f⟩:=bx (2^low);obtain⟨T,e⟩: ∃ Q,Q=10^Dc.lift:=⟨_,rfl⟩;have t:0<Q:=by rw[f];exact fp bL
 have c:0<T:=by rw[e];exact fp bL
 rw[<-f,<-e] at hv;rw[<-f,<-e];obtain⟨y,x⟩:=ytq b;have q:=iS Q r;have j:=iS Q v;have i:=iS Q u;rw[iW,fB,fB] at j i;rw[fB,hv] at q;rw[hv] at j i;have l:=jd y c;rw[fB,Nat.sub_mul] at l;have s:=jd (MP b) c;obtain⟨A,o⟩:=bx (U*Q);obtain⟨B,a⟩: ∃ A,A=V b*T:=⟨_,rfl⟩;obtain⟨C,n⟩: ∃ A,A=V (b+1)*T:=⟨_,rfl⟩;obtain⟨E,g⟩: ∃ A,A=N*Q:=⟨_,rfl⟩;rw[<-o,<-a] at q;rw[<-o,<-a,<-g] at j i;rw[<-a,<-n] at l s;refine⟨hb,?_,Or.inr (Or.inl ?_)⟩
 ·by_cases w:b=0
  ·exact Or.inl w
  ·right;left;have k:=jd (x aG) c;rw[fB,Nat.sub_mul] at k;have z:V (b-1)*T<V b*T:=jd (V_lt aG) c;obtain⟨D,m⟩: ∃ A,A=V (b-1)*T:=⟨_,rfl⟩;rw[<-a,<-m] at k z;rw[iW,<-m,<-a,<-g];omega
 ·rw[iW,<-a,<-n,<-g];omega
def yi6 {b:Nat} {s:Bool} {l:Dc.Bs} {X:Int} (hb:b<=9218868437227405312) (c:Dc.right l X=true) (e:l≠[]) (d: -40000<=X/\X<=40000) (hv:Dc.vv l X*2^low=V b*10^Dc.lift):
 bits (Dc.sig s l X 17 0).l (Dc.sig s l X 17 0).x =b:=by
 have a:=yfH (s:=s) (k:=17) (way:=0) c e aG aG d;have i:=ywM (k:=17) c e aG d;have hU:0<Dc.unit (((17:Nat):Int)-(l.length+X)):=Dc.ybp _;obtain⟨g,f⟩:=yv4 s 0 (Dc.vv l X) _ hU (Or.inl rfl);refine(Xu (Dc.sj a.right).1 ?_).symm;have j:=a.val
 have:Near (Dc.vv (Dc.sig s l X ((17:Nat):Int) 0).l (Dc.sig s l X ((17:Nat):Int) 0).x *2^low) (10^Dc.lift) b:=by rw[j];refine ysh hb hv ?_ g f;have:=i.1;exact this
 exact this
end Fl

namespace Fl
open Go
end Fl

namespace Fl
open Go
end Fl

namespace Fl
open Go
def says (r:Dc.Res) (b:Nat):Bool:=decide (bits r.l r.x=b)
def same (r t:Dc.Res):Bool:=decide (r.l=t.l/\r.x=t.x)
def tryN (s:Bool) (l:Dc.Bs) (x:Int) (b:Nat) (n:Nat):Option Dc.Res:=
 if says (Dc.sig s l x n 0) b=true then some (Dc.sig s l x n 0)
 else if same (Dc.sig s l x n 2) (Dc.sig s l x n 0)=false/\says (Dc.sig s l x n 2) b=true then some (Dc.sig s l x n 2)
 else if same (Dc.sig s l x n 3) (Dc.sig s l x n 0)=false/\says (Dc.sig s l x n 3) b=true then some (Dc.sig s l x n 3)
 else none
def vn (s:Bool) (l:Dc.Bs) (x:Int) (b:Nat):Nat->Nat->Dc.Res
 |0,n=>Dc.sig s l x n 0
 |k+1,n=>match tryN s l x b n with
  |some r=>r
  |none=>vn s l x b k (n+1)
def s8 (s:Bool) (l:Dc.Bs) (x:Int) (b:Nat):Dc.Res:=vn s l x b 16 1
def yh4 {s:Bool} {l:Dc.Bs} {x:Int} {b n:Nat} {r:Dc.Res} (h:tryN s l x b n=some r):says r b=true/\(r=Dc.sig s l x n 0∨r=Dc.sig s l x n 2∨r=Dc.sig s l x n 3):=by
 unfold tryN at h;split at h
 ·rename_i c;cases h;exact⟨c,Or.inl rfl⟩
 ·split at h
  ·rename_i c;cases h;exact⟨c.2,Or.inr (Or.inl rfl)⟩
  ·split at h
   ·rename_i c;cases h;exact⟨c.2,Or.inr (Or.inr rfl)⟩
   ·cases h
def ygK {r t:Dc.Res} {b:Nat} (h:same r t=true):says r b=says t b:=by obtain⟨a,c⟩:=vx h;unfold says;rw[a,c]
def yqd {s:Bool} {l:Dc.Bs} {x:Int} {b n:Nat} (h:tryN s l x b n=none):says (Dc.sig s l x n 0) b=false/\says (Dc.sig s l x n 2) b=false/\says (Dc.sig s l x n 3) b=false:=by
 unfold tryN at h;split at h
 ·cases h
 ·rename_i c0
  have c0:=Ny.2 c0;split at h
  ·cases h
  ·rename_i c1
   split at h
   ·cases h
   ·rename_i c2
    refine⟨c0,?_,?_⟩
    ·cases a:same (Dc.sig s l x n 2) (Dc.sig s l x n 0) with
     |true=>rw[ygK a];exact c0
     |false=>exact Ny.2 (fun e=>c1 ⟨a,e⟩)
    ·cases a:same (Dc.sig s l x n 3) (Dc.sig s l x n 0) with
     |true=>rw[ygK a];exact c0
     |false=>exact Ny.2 (fun e=>c2 ⟨a,e⟩)
def ygU {s:Bool} {l:Dc.Bs} {x:Int} {b:Nat}: ∀ (k n:Nat),∃ m,n<=m/\m<=n+k/\(∀ i,n<=i->i<m->tryN s l x b i=none)/\(tryN s l x b m=some (vn s l x b k n)∨m=n+k/\vn s l x b k n=Dc.sig s l x m 0)
 |0,n=>⟨n,cm,cm,fun i c d=>absurd c aG,Or.inr ⟨rfl,rfl⟩⟩
 |k+1,n=>by
  unfold vn
  cases h:tryN s l x b n with
  |some r=>exact⟨n,cm,by omega,fun i c d=>absurd c aG,Or.inl h⟩
  |none=>
   obtain⟨m,c,d,j,a⟩:=ygU (s:=s) (l:=l) (x:=x) (b:=b) k (n+1)
   refine⟨m,by omega,by omega,fun i o f=>?_,?_⟩
   ·by_cases e:i=n
    ·rw[e];exact h
    ·exact j i aG f
   ·rcases a with a|⟨a,g⟩
    ·exact Or.inl a
    ·exact Or.inr ⟨by omega,g⟩
def ywm {b:Nat} {s:Bool} {l:Dc.Bs} {X:Int} (hb:b<=9218868437227405312) (g:Dc.right l X=true) (o:l≠[]) (j: -40000<=X/\X<=40000) (hv:Dc.vv l X*2^low=V b*10^Dc.lift):
 ∃ m:Nat,1<=m/\m<=17/\(s8 s l X b).e =0/\(s8 s l X b).n =s/\Dc.right (s8 s l X b).l (s8 s l X b).x =true/\(s8 s l X b).l.length <=m/\bits (s8 s l X b).l (s8 s l X b).x =b/\
   (∀ i,1<=i->i<m->says (Dc.sig s l X i 2) b=false/\says (Dc.sig s l X i 3) b=false)/\(∃ way,(way=0∨way=2∨way=3)/\s8 s l X b=Dc.sig s l X m way):=by
 obtain⟨m,w,z,v,a⟩:=ygU (s:=s) (l:=l) (x:=X) (b:=b) 16 1
 have u: ∃ way,(way=0∨way=2∨way=3)/\s8 s l X b=Dc.sig s l X m way:=by
  rcases a with a|⟨-,a⟩
  ·rcases(yh4 a).2 with c|c|c
   ·exact⟨0,Or.inl rfl,c⟩
   ·exact⟨2,Or.inr (Or.inl rfl),c⟩
   ·exact⟨3,Or.inr (Or.inr rfl),c⟩
  ·exact⟨0,Or.inl rfl,a⟩
 have y:bits (s8 s l X b).l (s8 s l X b).x =b:=by
  rcases a with a|⟨a,c⟩
  ·exact vx (yh4 a).1
  ·show bits (vn s l X b 16 1).l (vn s l X b 16 1).x =b;rw[c,a];exact yi6 hb g o j hv
 obtain⟨way,q,f⟩:=u;have d:=yfH (s:=s) (k:=m) (way:=way) g o aG aG j;rw[<-f] at d;exact⟨m,w,by omega,d.e,d.n,d.right,d.len,y,fun i t r=>(yqd (v i t r)).2,way,q,f⟩
end Fl

namespace Fl
open Go
end Fl

namespace Fl
open Go
def yvM (j i:Nat) (hj:0<j):10^j≠2^i:=by
 intro h
 have a: ∀ i:Nat,2^i % 5≠0:=by
  intro i
  induction i with
  |zero=>decide
  |succ i b=>rw[jM];omega
 apply a i;rw[<-h];obtain⟨k,rfl⟩: ∃ k,j=k+1:=⟨j-1,by omega⟩;rw[jM];omega
def ybD (x:Int):170141183460469231731687303715884105728<=pwP x/\pwP x<340282366920938463463374607431768211456:=by
 have s:(170141183460469231731687303715884105728:Nat)=2^127:=bL;have r:(340282366920938463463374607431768211456:Nat)=2^128:=bL;rw[s,r];by_cases f:x<0
 ·obtain⟨j,hj⟩:=bx ((-x).toNat :Nat);have g:10^j≠0:=L9 (fp bL);obtain⟨b,a,m⟩:=rh g;have l:=yvM j (Na.bitLen (10^j)-1) aG;rw[pwP,bT f,<-hj];obtain⟨B,q⟩:=bx (10^j);rw[<-q] at b a m g l ⊢;obtain⟨L,c⟩: ∃ L,Na.bitLen B=L+1:=⟨Na.bitLen B-1,by omega⟩;rw[c,va] at b l;rw[c] at a ⊢;have n:0<B:=aG;constructor
  ·rw[zj n,lR,fM (2^(L+1))];exact nS _ (lY a)
  ·rw[wm n,show L+1+127=128+L by omega,lR];exact Nat.mul_lt_mul_of_pos_left aG (fp bL)
 ·obtain⟨A,e⟩:=bx (10^x.toNat);have t:A≠0:=by rw[e];exact L9 (fp bL)
  obtain⟨b,a,m⟩:=rh t;have o:pwE x=(Na.bitLen A:Int)-128:=by rw[pwE,bv f,<-e]
  rw[pwP,bv f,o,<-e];obtain⟨L,c⟩: ∃ L,Na.bitLen A=L+1:=⟨Na.bitLen A-1,by omega⟩;rw[c,va] at b;rw[c] at a ⊢;by_cases i:((L+1:Nat):Int)-128<=0
  ·rw[bT i];obtain⟨k,d⟩: ∃ k:Nat,L+k=127:=⟨127-L,by omega⟩;rw[show(-(((L+1:Nat):Int)-128)).toNat =k by omega];have p:0<2^k:=fp bL;constructor
   ·rw[<-d,lR];exact iS _ b
   ·rw[show 128=L+1+k by omega,lR];exact jd a p
  ·rw[bv i];obtain⟨k,d⟩: ∃ k:Nat,L=127+k:=⟨L-127,by omega⟩;rw[show(((L+1:Nat):Int)-128).toNat =k by omega];have p:0<2^k:=fp bL;constructor
   ·rw[zj p,<-Nat.pow_add,<-d];exact b
   ·rw[wm p,<-Nat.pow_add,show 128+k=L+1 by omega];exact a
end Fl

namespace Dc
open Go
def Fine (r:Res):Prop:=(r.e=0/\right r.l r.x=true)∨ ∃ e:Int,(e=2∨e=3)/\r=⟨false,[],0,e⟩
def ymD:right [] 0=true:=bL
def ysC (n:Bool) (l:Bs) (x:Int):Fine (mk n l x):=by
 by_cases h:dD l=true
 ·by_cases b:core l=[]
  ·rw[EA h b];exact Or.inl ⟨rfl,ymD⟩
  ·by_cases a:right (core l) (x+tz l)=true
   ·rw[Kd h b a];exact Or.inl ⟨rfl,a⟩
   ·rw[R7 h b a];exact Or.inr ⟨2,Or.inl rfl,rfl⟩
 ·rw[yf5 h];exact Or.inr ⟨3,Or.inr rfl,rfl⟩
end Dc
namespace Fl
open Go
def Gg (n:Bool) (l:Dc.Bs) (x:Int):Nat × Int:=if Dc.right l x=true then(vC n+bits l x,0) else(0,1)
def zW (s:Dc.Bs):Nat × Int:=if(Dc.parse s).e =0 then(vC (Dc.parse s).n +bits (Dc.parse s).l (Dc.parse s).x,0) else(0,(Dc.parse s).e)
def yjp {l:Dc.Bs} {x:Int} (h:Dc.right l x=true):bits l x<=9218868437227405312:=(yfG l x (Dc.sj h).1).1
end Fl

namespace Fl
open Go
def nanS:Dc.Bs:=[110,97,110]
def infS:Dc.Bs:=[105,110,102]
def T5:Dc.Bs:=[45,105,110,102]
def wdec (x:Nat):Dc.Res:=if 3<=kind x then⟨false,[],0,11⟩ else if(dec x).l =[] then dec x else s8 (neg x) (dec x).l (dec x).x (x % 9223372036854775808)
def qk (x:Nat):Dc.Bs:=if kind x=4 then nanS else if x=9218868437227405312 then infS else if x=18442240474082181120 then T5 else[]
def oQ (x:Nat):Dc.Bs:=if qk x≠[] then qk x else Dc.print (wdec x).n (wdec x).l (wdec x).x
def ydS (s:Dc.Bs):Nat × Int:=
 if s=nanS then(9221120237041090560,0) else if s=infS then(9218868437227405312,0) else if s=T5 then(18442240474082181120,0)
 else if(zW s).2 ≠0 then(0,(zW s).2) else if oQ (zW s).1 ≠s then(0,3) else((zW s).1,0)
def mk_x (s:Bool) (l:Dc.Bs) (y:Int):(Dc.mk s l y).x =0∨(Dc.mk s l y).x =y+Dc.tz l:=by
 unfold Dc.mk;split
 ·split
  ·exact Or.inl rfl
  ·split
   ·exact Or.inr rfl
   ·exact Or.inl rfl
 ·exact Or.inl rfl
def of_x (s:Bool) (n:Nat) (e:Int) (hn:n<2^54) (d: -1075<=e/\e<=971): -2000<=(of s n e).x /\(of s n e).x <=2000:=by
 by_cases a:0<=e
 ·have hl:=ylQ hn (show e.toNat<=n971 by unfold n971;omega);rw[of,bT a];have b:=Dc.ycv (Lib.decDigits (n*2^e.toNat));rcases mk_x s (Lib.decDigits (n*2^e.toNat)) 0 with h|h<;>rw[h]<;>omega
 ·rw[of,bv a];have c:=(ydV (-e).toNat n).2;have hl:(Lib.decDigits ((ov (-e).toNat n).1 *5^(ov (-e).toNat n).2)).length <=800:=yiX (wx (ydV (-e).toNat n).1 hn) (K:=1075) aG rfl;have b:=Dc.ycv (Lib.decDigits ((ov (-e).toNat n).1 *5^(ov (-e).toNat n).2));rcases mk_x s (Lib.decDigits ((ov (-e).toNat n).1 *5^(ov (-e).toNat n).2)) (-((ov (-e).toNat n).2 :Int)) with h|h<;>rw[h]<;>omega
def yfX (x:Nat) (h:kind x<3):(dec x).e =0/\(dec x).n =neg x/\Dc.right (dec x).l (dec x).x =true/\ -2000<=(dec x).x /\(dec x).x <=2000/\Dc.vv (dec x).l (dec x).x *2^low=V (x % 9223372036854775808)*10^Dc.lift/\bits (dec x).l (dec x).x =x % 9223372036854775808:=by
 obtain⟨a,b⟩:=yl3 x h;have hm:=VS x;have c:=KU x;have hx:=of_x (neg x) (mant x) (expn x) aG aG;have hb:=ymm x h;have e:dec x=⟨(of (neg x) (mant x) (expn x)).n,(of (neg x) (mant x) (expn x)).l,(of (neg x) (mant x) (expn x)).x,0⟩:=by rw[dec,bv aG,okd]
 rw[e];exact⟨rfl,a.sign,a.right,hx.1,hx.2,b,hb⟩
def yiO {x:Nat} (h:kind x<3):x % 9223372036854775808<9218868437227405312:=(yaT x h).2
def ya1 (x:Nat) (h:kind x<3):(wdec x).e =0/\(wdec x).n =neg x/\Dc.right (wdec x).l (wdec x).x =true/\(wdec x).l.length <=17/\bits (wdec x).l (wdec x).x =x % 9223372036854775808/\
 ∀ i,1<=i->i<(wdec x).l.length ->bits (Dc.sig (neg x) (dec x).l (dec x).x i 2).l (Dc.sig (neg x) (dec x).l (dec x).x i 2).x ≠x % 9223372036854775808/\bits (Dc.sig (neg x) (dec x).l (dec x).x i 3).l (Dc.sig (neg x) (dec x).l (dec x).x i 3).x ≠x % 9223372036854775808:=by
 obtain⟨t,r,f,z,y,q,o⟩:=yfX x h;unfold wdec;rw[bv aG];by_cases c:(dec x).l =[]
 ·rw[bT c];exact⟨t,r,f,by rw[c];decide,o,fun i e d=>by rw[c] at d;simp at d⟩
 ·rw[bv c];obtain⟨m,v,u,n,l,k,w,j,g, -⟩:=ywm (s:=neg x) (lY (yiO h)) f c aG q
  exact⟨n,l,k,by omega,j,fun i e d=>by
   obtain⟨a,b⟩:=g i e aG
   exact⟨xt a,xt b⟩⟩
def ymj (x:Nat):kind x<=4:=by unfold kind;split<;>(try split)<;>(try split)<;>omega
def yvc {x:Nat} (h:kind x<3):qk x=[]:=by
 have b:x≠9218868437227405312:=fun e=>by rw[e] at h;exact absurd h bL
 have a:x≠18442240474082181120:=fun e=>by rw[e] at h;exact absurd h bL
 rw[qk,bv aG,bv b,bv a]
def yiF {x:Nat} (hx:x<18446744073709551616) (h:kind x=3):x=9218868437227405312∨x=18442240474082181120:=by
 have a:expo x=2047:=by
  unfold kind at h;by_cases c:expo x=2047
  ·exact c
  ·rw[bv c] at h;split at h
   ·omega
   ·split at h<;>omega
 have b:frac x=0:=by
  unfold kind at h;rw[bT a] at h;by_cases c:frac x=0
  ·exact c
  ·rw[bv c] at h;omega
 unfold expo at a;unfold frac at b;omega
def yvQ {x:Nat} (h:kind x<3):oQ x=Dc.print (wdec x).n (wdec x).l (wdec x).x :=by rw[oQ,bv (by rw[yvc h];simp)]
def ylt {x:Nat} (hx:x<18446744073709551616):vC (neg x)+x % 9223372036854775808=x:=by
 unfold vC neg;by_cases c:9223372036854775808<=x
 ·rw[fv c,bT rfl];omega
 ·rw[eL c,bv bL];omega
def Q9 {x:Nat} (hx:x<18446744073709551616) (h:kind x<3):zW (oQ x)=(x,0):=by obtain⟨e,c,b,d,a, -⟩:=ya1 x h;rw[yvQ h,zW,Dc.yfh _ _ _ b,bT rfl];show(vC (wdec x).n +bits (wdec x).l (wdec x).x,(0:Int))=_;rw[a,c,ylt hx]
def yuI:(zW nanS).2 ≠0/\(zW infS).2 ≠0/\(zW T5).2 ≠0:=tX
def ykO {x:Nat} (hx:x<18446744073709551616):ydS (oQ x)=(if kind x=4 then 9221120237041090560 else x,0):=by
 have k:=ymj x;by_cases b:kind x=4
 ·have e:oQ x=nanS:=by
   have:qk x=nanS:=by rw[qk,bT b]
   rw[oQ,this,bT bL]
  rw[e,ydS,bT rfl,bT b]
 ·rw[bv b];by_cases g:kind x=3
  ·rcases yiF hx g with rfl|rfl<;>decide +kernel
  ·have h:kind x<3:=aG;have a:=Q9 hx h;obtain⟨j,b2,i⟩:=yuI;have f:oQ x≠nanS:=fun e=>j (by rw[<-e,a]);have d:oQ x≠infS:=fun e=>b2 (by rw[<-e,a]);have c:oQ x≠T5:=fun e=>i (by rw[<-e,a]);rw[ydS,bv f,bv d,bv c,a,bv cn,bv cn]
end Fl

namespace Ce
open Dc (Bs cu dD jQ)
structure Rf where
 col:Int
 row:Int
 ac:Bool
 ar:Bool
deriving DecidableEq
def zero:Rf:=⟨0,0,false,false⟩
def right (r:Rf):Bool:=decide (0<=r.col)&&(decide (r.col<64)&&(decide (0<=r.row)&&decide (r.row<1000)))
def Tv (r:Rf):right r=true↔0<=r.col/\r.col<64/\0<=r.row/\r.row<1000:=by simp[right]
def gI (c:UInt8):Bool:=(decide (65<=(c.toNat:Int))&&decide ((c.toNat:Int)<=90)) || (decide (97<=(c.toNat:Int))&&decide ((c.toNat:Int)<=122))
def letV (c:UInt8):Int:=if 97<=(c.toNat:Int) then(c.toNat:Int)-96 else(c.toNat:Int)-64
def pA (l:Bs):Int:=l.foldl (fun a c=>26*a+letV c) 0
def parse (l:Bs):Rf × Int:=
 let c:=Lib.trimPrefix l [36]
 let name:=c.takeWhile gI
 let a:=c.dropWhile gI
 let b:=Lib.trimPrefix a [36]
 let row:=b.takeWhile cu
 let d:=b.dropWhile cu
 if d≠[]∨name=[]∨3<name.length∨row=[]∨7<row.length∨row[0]? =some 48 then(zero,3) else
 if right ⟨pA name-1,jQ row-1,Lib.hasPrefix l [36],Lib.hasPrefix a [36]⟩ then(⟨pA name-1,jQ row-1,Lib.hasPrefix l [36],Lib.hasPrefix a [36]⟩,0) else(zero,14)
def rc (n:Nat):Bs:=if n<26 then[UInt8.ofNat (65+n)] else[UInt8.ofNat (64+n / 26),UInt8.ofNat (65+n % 26)]
def mark (b:Bool):Bs:=if b then[36] else[]
def print (r:Rf):Bs:=if right r then mark r.ac++(rc r.col.toNat++(mark r.ar++Lib.decDigits (r.row+1).toNat)) else[]
def eY (l:Bs):Bs:=l.map fun c=>if 97<=c.toNat/\c.toNat<=122 then c-32 else c
def yjr (b:Bool) (t:Bs) (a: ∀ c,t[0]? =some c->c≠36):Lib.hasPrefix (mark b++t) [36]=b/\Lib.trimPrefix (mark b++t) [36]=t:=by
 cases b with
 |true=>simp[mark,Lib.hasPrefix,Lib.trimPrefix]
 |false=>
  have h:Lib.hasPrefix t [36]=false:=by
   cases t with
   |nil=>rfl
   |cons c t=>
    have:=a c rfl
    simp[Lib.hasPrefix,List.isPrefixOf];exact fun e=>this e.symm
  refine⟨by simpa[mark] using h,?_⟩
  simp only[mark,ye,pI,xi]
  unfold Lib.trimPrefix
  simp only[Lib.hasPrefix] at h
  simp[Lib.hasPrefix,h]
def yt9 (f r:Bs) (a:f.all gI=true) (d: ∀ c,r[0]? =some c->gI c=false):(f++r).takeWhile gI=f/\(f++r).dropWhile gI=r:=by
 induction f with
 |nil=>
  cases r with
  |nil=>exact⟨rfl,rfl⟩
  |cons c r=>have:=d c rfl;simp[this]
 |cons c f b=>
  rw[qb,fs] at a
  obtain⟨g,e⟩:=b a.2
  simp[a.1,g,e]
def ydf: ∀ n:Fin 64,(rc n.1).all gI=true/\pA (rc n.1)=n.1+1/\rc n.1≠[]/\(rc n.1).length <=3/\(rc n.1)[0]?≠some 36:=bL
def ylk (u:Nat) (h:u<=1000):(Lib.decDigits u).length <=7:=by
 rw[Lib.decDigits];split
 ·simp
 ·rw[Lib.decDigits];split
  ·simp
  ·rw[Lib.decDigits];split
   ·simp
   ·rw[Lib.decDigits];split
    ·simp
    ·omega
def ytC (u:Nat) (h:1<=u): ∃ c,(Lib.decDigits u)[0]? =some c/\c≠48/\cu c=true:=by
 induction u using Nat.strongRecOn with
 | _ u d=>
   by_cases b:u<10
   ·rw[Lib.decDigits,CT b]
    refine⟨_,rfl,?_,?_⟩
    ·intro e
     have:=dZ UInt8.toNat e
     simp at this;omega
    ·simp[cu];omega
   ·obtain⟨c,a,g,f⟩:=d (u / 10) aG aG
    rw[Lib.decDigits,EF b]
    refine⟨c,?_,g,f⟩
    rw[zf]
    ·exact a
    ·exact(o6.1 a).1
def ymH (l:Bs) (h:dD l=true):l.takeWhile cu=l/\l.dropWhile cu=[]:=by have b:=Dc.VT l [] h cn;have a:=Dc.XT l [] h cn;rw[rm] at b a;exact⟨b,a⟩
def yod {c:UInt8} (h:cu c=true):gI c=false:=by simp[cu] at h;simp[gI];omega
def yfh (r:Rf) (h:right r=true):parse (print r)=(r,0):=by
 have H:=(Tv r).1 h;rw[print,bT h];obtain⟨n,hn⟩: ∃ n:Fin 64,n.1=r.col.toNat:=⟨⟨r.col.toNat,by omega⟩,rfl⟩;obtain⟨i,g,b,q,f⟩:=ydf n;rw[hn] at i g b q f;obtain⟨u,w⟩:=bx ((r.row+1).toNat);obtain⟨c,a,C,d⟩:=ytC u aG;obtain⟨v,t,s⟩:=Dc.RN u;have G:=ylk u aG;rw[<-w];obtain⟨L,z⟩:=bx (rc r.col.toNat);rw[<-z] at i g b q f ⊢;obtain⟨D,A⟩:=bx (Lib.decDigits u);rw[<-A] at a v t s G ⊢
 have m:=yjr r.ac (L++(mark r.ar++D)) (by
  intro x hx
  cases L with
  |nil=>exact absurd rfl b
  |cons y L=>intro e;apply f;rw[<-e];exact hx)
 have l:=yt9 L (mark r.ar++D) i (by
  intro x hx
  cases o:r.ar with
  |true=>rw[o] at hx;simp[mark] at hx;rw[<-hx];decide
  |false=>rw[o] at hx;simp only[mark,ye,pI,xi] at hx;rw[a] at hx;rw[<-Option.some.inj hx];exact yod d)
 have k:=yjr r.ar D (by intro x hx;rw[a] at hx;rw[<-Option.some.inj hx];intro e;rw[e] at d;revert d;decide)
 have j:=ymH D v;unfold parse;simp only[m.1,m.2,l.1,l.2,k.1,k.2,j.1,j.2]
 rw[bv (by
  rintro (e|e|e|e|e|e)
  ·exact e rfl
  ·exact b e
  ·omega
  ·exact s e
  ·omega
  ·rw[a] at e;exact C (tJ e))]
 have B:(⟨pA L-1,jQ D-1,r.ac,r.ar⟩:Rf)=r:=by rw[g,t];have F:((r.col.toNat:Int)+1-1)=r.col:=aG;have E:((u:Int)-1)=r.row:=aG;rw[F,E]
 rw[B,bT h]
def ym1 (l:Bs) (h:dD l=true) (a:l≠[]) (b:l[0]?≠some 48):1<=jQ l/\Lib.decDigits (jQ l).toNat =l:=by
 obtain⟨n,hn⟩:=bx (l.length)
 induction n generalizing l with
 |zero=>exact absurd (sV.1 hn.symm) a
 |succ n d=>
  obtain⟨m,c,rfl⟩: ∃ m c,l=m++[c]:=⟨l.dropLast,l.getLast a,(yaE a).symm⟩
  rw[dD,Eu,fs] at h
  have g:cu c=true:=by simpa using h.2
  simp[cu] at g
  rw[Dc.ysz]
  by_cases hm:m=[]
  ·subst hm
   have e:jQ []=0:=rfl
   rw[e]
   have f:c≠48:=by intro e;apply b;rw[e];rfl
   have:c.toNat≠48:=fun e=>f (qu.1 e)
   refine⟨by omega,?_⟩
   rw[Lib.decDigits,CT aG]
   simp only[xi,yaw,Xy]
   apply qu.1
   simp;omega
  ·obtain⟨o,i⟩:=d m h.1 hm (by
    intro e;apply b
    rw[zf (ti.2 hm)];exact e) (by simp at hn;omega)
   refine⟨by omega,?_⟩
   rw[Lib.decDigits,EF aG]
   have k:(10*jQ m+((c.toNat:Int)-48)).toNat / 10=(jQ m).toNat :=aG
   have j:(10*jQ m+((c.toNat:Int)-48)).toNat % 10=c.toNat-48:=aG
   rw[k,j,i]
   congr 2
   apply qu.1
   simp;omega
def yw {c:UInt8} (h:gI c=true):1<=letV c/\letV c<=26:=by simp[gI] at h;unfold letV;split<;>omega
def yeE {c:UInt8} (h:gI c=true):(if 97<=c.toNat/\c.toNat<=122 then c-32 else c)=UInt8.ofNat (64+(letV c).toNat):=by
 simp[gI] at h;apply qu.1;unfold letV;have:=c.toNat_lt;split
 ·rw[bT aG];rw[ygY _ _ (by simp[ykn];omega)];simp;omega
 ·rw[bv aG];simp;omega
def yrZ (l:Bs) (h:l.all gI=true) (g:l≠[]) (hl:l.length<=3) (e:pA l-1<64):0<=pA l-1/\rc (pA l-1).toNat =eY l:=by
 match l,h,g,hl,e with
 | [],_,g,_,_=>exact absurd rfl g
 | [a],h,_,_,e=>
   have f:gI a=true:=nu
   have b:=yw f
   simp only[pA,List.foldl] at e ⊢
   refine⟨by omega,?_⟩
   rw[rc,bT aG]
   simp only[eY,List.map,yeE f]
   congr 2;omega
 | [a,b],h,_,_,e=>
   have f:gI a=true:=by simp at h;exact h.1
   have hb:gI b=true:=by simp at h;exact h.2
   have j:=yw f
   have b2:=yw hb
   simp only[pA,List.foldl] at e ⊢
   refine⟨by omega,?_⟩
   obtain⟨x,hx⟩: ∃ x:Nat,(x:Int)=letV a:=⟨(letV a).toNat,by omega⟩
   obtain⟨y,i⟩: ∃ x:Nat,(x:Int)=letV b:=⟨(letV b).toNat,by omega⟩
   rw[rc,bv aG]
   simp only[eY,List.map,yeE f,yeE hb]
   have o:1<=x/\1<=y/\y<=26:=aG
   rw[<-hx,<-i]
   clear hx i e j b2
   have n:(26*(26*0+(x:Int))+(y:Int)-1).toNat / 26=x:=aG
   have m:65+(26*(26*0+(x:Int))+(y:Int)-1).toNat % 26=64+y:=aG
   rw[n,m,jJ,jJ]
 | [a,b,c],h,_,_,e=>
   have f:gI a=true:=by simp at h;exact h.1
   have hb:gI b=true:=by simp at h;exact h.2.1
   have k:gI c=true:=by simp at h;exact h.2.2
   have j:=yw f
   have b2:=yw hb
   have q:=yw k
   simp only[pA,List.foldl] at e
   omega
 |a::b::c::d::t,_,_,hl,_=>simp at hl
def ygc (a b:Bs):eY (a++b)=eY a++eY b:=by simp[eY]
def ytk (l:Bs) (h:dD l=true):eY l=l:=by
 induction l with
 |nil=>rfl
 |cons c l a=>
  rw[dD,qb,fs] at h
  have b:=h.1
  simp[cu] at b
  have:eY (c::l)=(if 97<=c.toNat/\c.toNat<=122 then c-32 else c)::eY l:=rfl
  rw[this,a h.2,bv aG]
def yjH (b:Bool):eY (mark b)=mark b:=by cases b<;>decide
def yg8 (l:Bs):l=mark (Lib.hasPrefix l [36])++Lib.trimPrefix l [36]:=by
 cases l with
 |nil=>rfl
 |cons c l=>
  by_cases h:c=36
  ·subst h;simp[Lib.hasPrefix,Lib.trimPrefix,mark]
  ·have e:Lib.hasPrefix (c::l) [36]=false:=by simp[Lib.hasPrefix,List.isPrefixOf];exact fun e=>h e.symm
   unfold Lib.trimPrefix
   simp[e,mark]
def ykO (l:Bs) (r:Rf) (h:parse l=(r,0)):right r=true/\print r=eY l:=by
 unfold parse at h;simp only[] at h;obtain⟨c,u⟩: ∃ s,s=Lib.trimPrefix l [36]:=⟨_,rfl⟩;rw[<-u] at h;obtain⟨e,i⟩: ∃ s,s=c.takeWhile gI:=⟨_,rfl⟩;obtain⟨b,t⟩: ∃ s,s=c.dropWhile gI:=⟨_,rfl⟩;rw[<-i,<-t] at h;obtain⟨d,q⟩: ∃ s,s=Lib.trimPrefix b [36]:=⟨_,rfl⟩;rw[<-q] at h;obtain⟨a,g⟩: ∃ s,s=d.takeWhile cu:=⟨_,rfl⟩;obtain⟨G,o⟩: ∃ s,s=d.dropWhile cu:=⟨_,rfl⟩;rw[<-g,<-o] at h;obtain⟨ac,n⟩: ∃ s,s=Lib.hasPrefix l [36]:=⟨_,rfl⟩;obtain⟨ar,m⟩: ∃ s,s=Lib.hasPrefix b [36]:=⟨_,rfl⟩;rw[<-n,<-m] at h;split at h
 ·cases h
 ·rename_i hn
  simp only[not_or,Decidable.not_not] at hn;obtain⟨y,x,I,w,H,v⟩:=hn;split at h
  ·rename_i f
   obtain rfl:=(Prod.mk.inj h).1;refine⟨f,?_⟩;rw[print,bT f];have j:=(Tv _).1 f;simp only at j ⊢;have D:e.all gI=true:=by rw[i];exact zb
   have k:dD a=true:=by rw[g];exact zb
   have F:=yrZ e D x aG j.2.1;have E:=ym1 a k w v;rw[F.2,show(jQ a-1+1)=jQ a by omega,E.2]
   have z:d=a:=by have:=sI (p:=cu) (l:=d);rw[<-g,<-o,y,rm] at this;exact this.symm
   have A:b=mark ar++a:=by rw[m,<-z,q];exact yg8 b
   have B:c=e++b:=by rw[i,t];exact(sI (p:=gI) (l:=c)).symm
   have C:l=mark ac++c:=by rw[n,u];exact yg8 l
   conv=>rhs;rw[C,B,A]
   rw[ygc,ygc,ygc,yjH,yjH,ytk a k]
  ·have:=(Prod.mk.inj h).2;exact absurd this bL
def ybr (l:Bs):(∃ r,parse l=(r,0)/\right r=true)∨parse l=(zero,3)∨parse l=(zero,14):=by
 unfold parse;simp only[];split
 ·exact .inr (.inl rfl)
 ·split
  ·rename_i h;exact .inl ⟨_,rfl,h⟩
  ·exact .inr (.inr rfl)
end Ce

namespace Fx
open Dc (Bs cu)
inductive Tr where
 |mk (kind:Int) (bits:Nat) (text:Bs) (is:Bool) (fail:Int) (a b:Ce.Rf) (kids:List Tr)
namespace Tr
def kind:Tr->Int|mk k _ _ _ _ _ _ _=>k
def bits:Tr->Nat|mk _ x _ _ _ _ _ _=>x
def txt:Tr->Bs|mk _ _ t _ _ _ _ _=>t
def is:Tr->Bool|mk _ _ _ i _ _ _ _=>i
def fail:Tr->Int|mk _ _ _ _ f _ _ _=>f
def a:Tr->Ce.Rf|mk _ _ _ _ _ a _ _=>a
def b:Tr->Ce.Rf|mk _ _ _ _ _ _ b _=>b
def kids:Tr->List Tr|mk _ _ _ _ _ _ _ ks=>ks
end Tr
def nod (k:Int) (t:Bs) (ks:List Tr):Tr:= .mk k 0 t false 0 Ce.zero Ce.zero ks
mutual
def num:Tr->Nat | .mk _ _ _ _ _ _ _ ks=>1+nums ks
def nums:List Tr->Nat | []=>0|k::ks=>num k+nums ks
end
mutual
def deep:Tr->Nat | .mk _ _ _ _ _ _ _ ks=>kv ks+1
def kv:List Tr->Nat | []=>0|k::ks=>max (deep k) (kv ks)
end
def jq (n:Int):Bs:=
 if n=1 then[35,78,85,76,76,33] else if n=2 then[35,68,73,86,47,48,33] else if n=3 then[35,86,65,76,85,69,33] else if n=4 then[35,82,69,70,33]
 else if n=5 then[35,78,65,77,69,63] else if n=6 then[35,78,85,77,33] else if n=7 then[35,78,47,65] else if n=8 then[35,67,89,67,76,69,33] else[]
def eT (s:Bs):Nat:=
 if s=[61]∨s=[60,62]∨s=[60]∨s=[60,61]∨s=[62]∨s=[62,61] then 1 else if s=[38] then 2 else if s=[43]∨s=[45] then 3 else if s=[42]∨s=[47] then 4 else if s=[94] then 5 else 0
def xj (c:UInt8):Bool:=decide (65<=c.toNat)&&decide (c.toNat<=90)
def ps (c:UInt8):Bool:=xj c || (cu c || (c==46 || c==95))
def oF (s:Bs):Bool:=match s with | []=>false|c::t=>decide ((c::t).length <=40)&&((c::t).all ps&&xj c)
def g8 (t:Tr):Bool:=
 (t.kind==1 || t.bits==0)&&((t.kind==3 || !t.is)&&((t.kind==4 || t.fail==0)&&((t.kind==5 || (t.kind==6 || decide (t.a=Ce.zero)))&&((t.kind==6 || decide (t.b=Ce.zero))&&
 (if t.kind=1 then decide (t.bits<9218868437227405312)&&(t.txt==[]&&t.kids.length==0)
  else if t.kind=2 then decide (t.txt.length<=1000)&&t.kids.length==0
  else if t.kind=3 then t.txt==[]&&t.kids.length==0
  else if t.kind=4 then decide (1<=t.fail)&&(decide (t.fail<=8)&&(t.txt==[]&&t.kids.length==0))
  else if t.kind=5 then Ce.right t.a&&(t.txt==[]&&t.kids.length==0)
  else if t.kind=6 then Ce.right t.a&&(Ce.right t.b&&(t.txt==[]&&t.kids.length==0))
  else if t.kind=7 then(t.txt==[45] || t.txt==[43])&&t.kids.length==1
  else if t.kind=8 then decide (0<eT t.txt)&&t.kids.length==2
  else if t.kind=9 then t.txt==[37]&&t.kids.length==1
  else if t.kind=10 then oF t.txt&&decide (t.kids.length<=30)
  else false)))))
mutual
def hG:Tr->Bool | .mk k x t i f a b ks=>g8 (.mk k x t i f a b ks)&&jz ks
def jz:List Tr->Bool | []=>true|k::ks=>hG k&&jz ks
end
def right (t:Tr):Bool:=decide (num t<=500)&&(decide (deep t<=100)&&hG t)
def cnt (t:Tr) (most:Nat):Nat:=min (num t) (most+1)
def size (t:Tr):Nat × Nat:=if 1000<num t then(1001,0) else(num t,deep t)
def rank (t:Tr):Nat:=if t.kind=8 then eT t.txt else if t.kind=7 then 6 else if t.kind=9 then 7 else 8
def par (a:Nat) (k:Tr) (s:Bs):Bs:=if rank k<a then 40::(s++[41]) else s
def dot (D:UInt8):Bs->Bs | []=>[]|c::s=>if c=46 then D::s else c::dot D s
def dbl:Bs->Bs | []=>[]|c::s=>if c=34 then 34::34::dbl s else c::dbl s
def mt (L:UInt8):List Bs->Bs | []=>[] | [s]=>s|s::t::r=>s++L::mt L (t::r)
def asm (D L:UInt8) (t:Tr) (c:List Bs):Bs:=
 if t.kind=1 then dot D (Fl.oQ t.bits)
 else if t.kind=2 then 34::(dbl t.txt++[34])
 else if t.kind=3 then(if t.is then[84,82,85,69] else[70,65,76,83,69])
 else if t.kind=4 then jq t.fail
 else if t.kind=5 then Ce.print t.a
 else if t.kind=6 then Ce.print t.a++58::Ce.print t.b
 else if t.kind=7 then(match t.kids,c with|k::_,s::_=>t.txt++par 6 k s | _,_=>[])
 else if t.kind=9 then(match t.kids,c with|k::_,s::_=>par 7 k s++t.txt | _,_=>[])
 else if t.kind=8 then(match t.kids,c with|k::m::_,s::r::_=>par (eT t.txt) k s++(t.txt++par (eT t.txt+1) m r) | _,_=>[])
 else t.txt++40::(mt L c++[41])
mutual
def text (D L:UInt8):Tr->Bs | .mk k x t i f a b ks=>asm D L (.mk k x t i f a b ks) (GF D L ks)
def GF (D L:UInt8):List Tr->List Bs | []=>[]|k::ks=>text D L k::GF D L ks
end
def print (D L:UInt8) (t:Tr):Bs:=if right t then text D L t else[]
structure Tk where
 kind:Nat
 at':Bs
 end':Bs
 text:Bs
 exp:Int
def gI (c:UInt8):Bool:=xj c || (decide (97<=c.toNat)&&decide (c.toNat<=122))
def j1 (c:UInt8):Bool:=gI c || (cu c || (c==36 || (c==46 || c==95)))
def skip:Bs->Bs
 |194::160::s=>skip s
 |c::s=>if c=32∨c=9∨c=10∨c=13 then skip s else c::s
 | []=>[]
def cutD (D:UInt8):Bs->Option Bs | []=>none|c::s=>if c=D then some s else none
def mant (D:UInt8) (s:Bs):Bs × Nat × Bs:=
 match cutD D (s.dropWhile cu) with
 |some r=>(s.takeWhile cu++r.takeWhile cu,(r.takeWhile cu).length,r.dropWhile cu)
 |none=>(s.takeWhile cu,0,s.dropWhile cu)
def upTo (l:Bs):Int:=min (Dc.jQ l) 1000000000
def expo (s:Bs):Int × Bs:=
 match s with
 | []=>(0,[])
 |c::r=>
  if c=101∨c=69 then
   match r with
   | []=>(0,c::r)
   |d::q=>
    if d=43∨d=45 then
     if q.takeWhile cu=[] then(0,c::r) else(if d=45 then-upTo (q.takeWhile cu) else upTo (q.takeWhile cu),q.dropWhile cu)
    else if r.takeWhile cu=[] then(0,c::r) else(upTo (r.takeWhile cu),r.dropWhile cu)
  else(0,c::r)
def ou (D:UInt8) (s:Bs):Tk:=⟨1,s,(expo (mant D s).2.2).2,(mant D s).1,(expo (mant D s).2.2).1 -(mant D s).2.1⟩
def quot:Bs->Option (Bs × Bs)
 | []=>none
 |34::34::s=>(quot s).map fun p=>(34::p.1,p.2)
 |c::s=>if c=34 then some ([],s) else(quot s).map fun p=>(c::p.1,p.2)
def pq (s:Bs):Option Nat:=[1,2,3,4,5,6,7,8].find? fun n=>Lib.hasPrefix s (jq (n:Nat))
def signs (L:UInt8):List Bs:=[[60,62],[60,61],[62,61],[60],[62],[61],[38],[43],[45],[42],[47],[94],[37],[40],[41],[58],[L]]
def ss (L:UInt8) (s:Bs):Option Bs:=(signs L).find? fun g=>Lib.hasPrefix s g
def oT (D:UInt8) (s:Bs):Bool:=match cutD D s with|some (c::_)=>cu c | _=>false
def tokS (D L:UInt8) (s:Bs):Tk:=
 match s with
 | []=>⟨0,[],[],[],0⟩
 |c::r=>
  if cu c || oT D (c::r) then ou D (c::r)
  else if c=34 then(match quot r with|some (t,l)=>⟨2,c::r,l,t,0⟩|none=>⟨6,c::r,[],[],0⟩)
  else if gI c || c==36 then⟨3,c::r,(c::r).dropWhile j1,(c::r).takeWhile j1,0⟩
  else match pq (c::r) with
   |some n=>⟨4,c::r,(c::r).drop (jq (n:Nat)).length,[],n⟩
   |none=>match ss L (c::r) with
    |some g=>⟨5,c::r,(c::r).drop g.length,g,0⟩
    |none=>⟨6,c::r,[],[],0⟩
def tok (D L:UInt8) (l:Bs):Tk:=tokS D L (skip l)
inductive Rs where
 |ok (t:Tr) (l:Bs)
 |er (e:Int) (l:Bs)
def numb (s:Bs) (x:Int):Option Nat:=
 if(Dc.mk false s x).e ≠0 then none else if Fl.kind (Fl.bits (Dc.mk false s x).l (Dc.mk false s x).x)<3 then some (Fl.bits (Dc.mk false s x).l (Dc.mk false s x).x) else none
def qZ:Bs:=[84,82,85,69]
def so:Bs:=[70,65,76,83,69]
def mf (t:Tk):Ce.Rf × Int:=((Ce.parse t.text).1,if(Ce.parse t.text).2 =3 then 8 else(Ce.parse t.text).2)
def no (D L:UInt8) (l:Bs):Rs:= .er 13 (tok D L l).at'
def word (D L:UInt8) (t:Tk):Rs:=
 if Ce.eY t.text=qZ∨Ce.eY t.text=so then .ok (.mk 3 0 [] (decide (Ce.eY t.text=qZ)) 0 Ce.zero Ce.zero []) t.end'
 else if(mf t).2 ≠0 then .er (mf t).2 t.at'
 else if(tok D L t.end').kind =5/\(tok D L t.end').text =[58] then
  let u:=tok D L (tok D L t.end').end'
  if u.kind≠3∨Ce.eY u.text=qZ∨Ce.eY u.text=so∨Lib.hasPrefix u.end' [40]=true then no D L (tok D L t.end').end'
  else if(mf u).2 ≠0 then .er (mf u).2 u.at'
  else .ok (.mk 6 0 [] false 0 (mf t).1 (mf u).1 []) u.end'
 else .ok (.mk 5 0 [] false 0 (mf t).1 Ce.zero []) t.end'
mutual
def expr (D L:UInt8):Nat->Nat->Nat->Bs->Rs
 |0,_,_,l=> .er 99 l
 |f+1,n,op,l=>if n=6 then nE D L f op l else match expr D L f (n+1) op l with | .ok e a=>loop D L f n op e a | .er e p=> .er e p
def loop (D L:UInt8):Nat->Nat->Nat->Tr->Bs->Rs
 |0,_,_,_,l=> .er 99 l
 |f+1,n,op,e,l=>
  if(tok D L l).kind =5/\eT (tok D L l).text =n then
   match expr D L f (n+1) op (tok D L l).end' with | .ok g a=>loop D L f n op (nod 8 (tok D L l).text [e,g]) a | .er e p=> .er e p
  else .ok e l
def nE (D L:UInt8):Nat->Nat->Bs->Rs
 |0,_,l=> .er 99 l
 |f+1,op,l=>
  if(tok D L l).kind =5/\eT (tok D L l).text =3 then
   if op=100 then .er 7 (tok D L l).at' else match nE D L f (op+1) (tok D L l).end' with | .ok e a=> .ok (nod 7 (tok D L l).text [e]) a | .er e p=> .er e p
  else match nl D L f op l with | .ok e a=>post D L f e a | .er e p=> .er e p
def post (D L:UInt8):Nat->Tr->Bs->Rs
 |0,_,l=> .er 99 l
 |f+1,e,l=>if(tok D L l).kind =5/\(tok D L l).text =[37] then post D L f (nod 9 [37] [e]) (tok D L l).end' else .ok e l
def nl (D L:UInt8):Nat->Nat->Bs->Rs
 |0,_,l=> .er 99 l
 |f+1,op,l=>
  let t:=tok D L l
  if t.kind=1 then match numb t.text t.exp with|some x=> .ok (.mk 1 x [] false 0 Ce.zero Ce.zero []) t.end'|none=> .er 2 t.at'
  else if t.kind=2 then(if 1000<t.text.length then .er 4 t.at' else .ok (nod 2 t.text []) t.end')
  else if t.kind=4 then .ok (.mk 4 0 [] false t.exp Ce.zero Ce.zero []) t.end'
  else if t.kind=3 then
   if Lib.hasPrefix t.end' [40]=true then(if oF (Ce.eY t.text)=true then call D L f op (Ce.eY t.text) t.end' else .er 8 t.at')
   else word D L t
  else if t.kind=5/\t.text=[40] then
   if op=100 then .er 7 t.at' else match expr D L f 1 (op+1) t.end' with
    | .ok e a=>if(tok D L a).kind =5/\(tok D L a).text =[41] then .ok e (tok D L a).end' else no D L a
    | .er e p=> .er e p
  else no D L l
def call (D L:UInt8):Nat->Nat->Bs->Bs->Rs
 |0,_,_,l=> .er 99 l
 |f+1,op,name,l=>
  if op=100 then .er 7 (tok D L l).at'
  else if(tok D L (tok D L l).end').kind =5/\(tok D L (tok D L l).end').text =[41] then .ok (nod 10 name []) (tok D L (tok D L l).end').end'
  else args D L f (op+1) name [] (tok D L l).end'
def args (D L:UInt8):Nat->Nat->Bs->List Tr->Bs->Rs
 |0,_,_,_,l=> .er 99 l
 |f+1,op,name,ks,l=>
  match expr D L f 1 op l with
  | .ok k a=>
    let t:=tok D L a
    if t.kind=5/\(t.text=[41]∨t.text=[L]) then
     if t.text=[41] then .ok (nod 10 name (ks++[k])) t.end' else if ks.length+1=30 then .er 5 t.at' else args D L f op name (ks++[k]) t.end'
    else no D L a
  | .er e p=> .er e p
end
def fuel (l:Bs):Nat:=12*l.length+20
def parse (D L:UInt8) (s:Bs):Option Tr × Int × Int:=
 if 1000<s.length then(none,4,0)
 else match expr D L (fuel s) 1 0 s with
  | .ok t l=>
    if(tok D L l).kind ≠0 then(none,13,(s.length-(tok D L l).at'.length :Nat))
    else if 500<num t then(none,5,0) else if 100<deep t then(none,7,0) else(some t,0,0)
  | .er e l=>(none,e,(s.length-l.length:Nat))
end Fx

/-- A call returns v; what lay in memory stays. -/
def RetB (v:Value) (w:World) (e:Ending) (w':World):Prop:=e= .returned v/\Below w.heap.size w w'
def RetB.of {v a:Value} {w w':World} (h:a=v) (hb:Below w.heap.size w w'):RetB v w (.returned a) w':=⟨by rw[h],hb⟩
/-- A call returns v; the world is the same. -/
def Ret0 (v:Value) (w:World) (e:Ending) (w':World):Prop:=e= .returned v/\w=w'
def Ret0.of {v a:Value} {w:World} (h:a=v):Ret0 v w (.returned a) w:=⟨by rw[h],rfl⟩
def bs_getElem? (s:ByteArray) (k:Nat) (h:k<s.size):s.data.toList[k]? =some s[k]:=by simp[ByteArray.getElem_eq_getElem_data,h]
def dN (s:ByteArray):s.data.toList.length=s.size:=by simp
def ypI (s:ByteArray) (k:Nat) (h:k<s.size) (p:UInt8->Bool):(s.data.toList.take (k+1)).all p=((s.data.toList.take k).all p&&p s[k]):=by rw[List.take_add_one,bs_getElem? s k h];simp
def sT (s:ByteArray):s.toList=s.data.toList:=ByteArray.toList_eq s
def yuy {s:ByteArray} (h:s.toList.isEmpty=true):s.size=0:=by
 rw[sT,List.isEmpty_iff] at h
 have:=congrArg List.length h
 simpa using this
def oj {s:ByteArray} (h:0<s.size):s.toList.isEmpty=false:=by
 rw[sT]
 cases e:s.data.toList with
 |nil=>have a:=congrArg List.length e;simp only[Array.length_toList,List.length_nil] at a;exact absurd h (by rw[ByteArray.size,a];omega)
 |cons=>rfl
def pB {s:ByteArray} (h:s.size=0):s.toList.isEmpty=true:=by rw[sT,List.isEmpty_iff];exact List.length_eq_zero_iff.1 (by simpa using h)
def nm (l:List UInt8):(⟨l.toArray⟩:ByteArray).size =l.length:=by simp[ByteArray.size]
def yb7 (w:World):w.drew.heap.size=w.heap.size:=rfl
def yxu (w:World) (n:Nat):(w.drewN n).heap.size =w.heap.size:=rfl
def oY {B:Nat} {a w:World} (h:Below B a w) (n:Nat):Below B a (w.drewN n):=h.trans ⟨rfl,rfl,rfl,Nat.le_refl _,fun _ _=>rfl⟩
def VO {W a:World} (hb:Below W.heap.size W a):(∀ b o,b<W.heap.size->a.cell? ⟨b,o,none⟩=W.cell? ⟨b,o,none⟩)/\(∀ b o,b<W.heap.size->a.frozen? ⟨b,o,none⟩=W.frozen? ⟨b,o,none⟩):=
 ⟨fun b o h=>hb.cell (p:=⟨b,o,none⟩) h,fun b o h=>hb.frozen (p:=⟨b,o,none⟩) h⟩
/-! Short names, for the merged texts of a claim (gen/bundle.py with SHORT). -/
def fO (w:World):w.drew.heap.size=w.heap.size:=rfl
def gz (w:World) (n:Nat):(w.drewN n).heap.size =w.heap.size:=rfl
def fY (w:World) (o:Obj):(w.alloc o).heap.size =w.heap.size+1:=World.size_alloc w o
def gt (w:World) (a:Addr) (v:Value):(w.setCell a v).heap.size =w.heap.size:=World.size_setCell w a v
def own6 {W a:World} (hb:Below W.heap.size W a) (b:Nat) (h:b<W.heap.size:=by(try simp only[fO,gz,fY,gt]);omega):b<a.heap.size/\b<=a.heap.size/\ ¬ b=a.heap.size/\ ¬ a.heap.size=b/\(∀ o,a.cell? ⟨b,o,none⟩=W.cell? ⟨b,o,none⟩)/\(∀ o,a.frozen? ⟨b,o,none⟩=W.frozen? ⟨b,o,none⟩):=by
 have c:=hb.size
 exact⟨by omega,by omega,by omega,by omega,fun o=>hb.cell (p:=⟨b,o,none⟩) h,fun o=>hb.frozen (p:=⟨b,o,none⟩) h⟩
def g9 (W:World) {X a:World} (hb:Below X.heap.size X a) (d:Below W.heap.size W X:=by(repeat(first|exact eN|assumption|refine Below.setCell ?_ (by first|omega|(simp<;>omega)) _|refine Below.alloc ?_ (by first|omega|(simp<;>omega)) _|refine Below.drew ?_|refine oY ?_ _))) (c:W.heap.size<=X.heap.size:=by first|omega|(simp<;>omega)):Below W.heap.size W a/\(∀ b o,b<X.heap.size->a.cell? ⟨b,o,none⟩=X.cell? ⟨b,o,none⟩)/\(∀ b o,b<X.heap.size->a.frozen? ⟨b,o,none⟩=X.frozen? ⟨b,o,none⟩)/\X.heap.size<=a.heap.size:=⟨Below.trans d (hb.mono c),(VO hb).1,(VO hb).2,hb.size⟩
def cY {P:Program} {f:FuncId} {a g:Array Value} {w w' d:World} {v:Value} {R Q:Ending->World->Prop} (c:Calls P f g w' R) (k:Q (.returned v) d) (l:a=g:=by with_reducible rfl) (i:w=w':=by with_reducible rfl) (j: ∀ e b,R e b->e= .returned v/\d=b:=by intro e b h;exact⟨h.1,by first|exact h.2|exact h.2.symm⟩):Calls P f a w Q:=by subst l;subst i;exact c.mono fun e b h=>by obtain⟨n,m⟩:=j e b h;rw[n,<-m];exact k
def cV {P:Program} {f:FuncId} {a d:Array Value} {w w':World} {R Q:Ending->World->Prop} (c:Calls P f d w' R) (k: ∀ e b,R e b->Q e b) (h:a=d:=by with_reducible rfl) (g:w=w':=by with_reducible rfl):Calls P f a w Q:=by subst h;subst g;exact c.mono k
def cp {P:Program} {f:FuncId} {a g:Array Value} {w w':World} {v:Value} {B:World->Prop} {R Q:Ending->World->Prop} (c:Calls P f g w' R) (k: ∀ b,B b->Q (.returned v) b) (j:a=g:=by with_reducible rfl) (i:w=w':=by with_reducible rfl) (d: ∀ e b,R e b->e= .returned v/\B b:=by exact fun _ _ h=>h):Calls P f a w Q:=by subst j;subst i;exact c.mono fun e b h=>by rw[(d e b h).1];exact k b (d e b h).2

section
open Fx (Tr)
def trv (t:Tr) (v:Value):Value:= .agg #[.int .i64 t.kind,.int .u64 (t.bits:Nat),.string ⟨t.txt.toArray⟩,.bool t.is,.int .i64 t.fail,.int .i64 t.a.col,.int .i64 t.a.row,.bool t.a.ac,.bool t.a.ar,.int .i64 t.b.col,.int .i64 t.b.row,.bool t.b.ac,.bool t.b.ar,v]
def trc (t:Tr) (v:Value):List Value:=[.int .i64 t.kind,.int .u64 (t.bits:Nat),.string ⟨t.txt.toArray⟩,.bool t.is,.int .i64 t.fail,.int .i64 t.a.col,.int .i64 t.a.row,.bool t.a.ac,.bool t.a.ar,.int .i64 t.b.col,.int .i64 t.b.row,.bool t.b.ac,.bool t.b.ar,v]
def NodeAt (w:World) (b o:Nat) (t:Tr) (v:Value):Prop:= ∀ j u,(trc t v)[j]? =some u->w.cell? ⟨b,o+j,none⟩=some u
mutual
def TreeAt (w:World) (lo hi:Nat):Tr->Value->Prop
 | .mk _ _ _ _ _ _ _ ks,v=> ∃ a c,v= .slice a ks.length c/\ks.length<=c/\ks.length<=9223372036854775807/\(0<ks.length-> ∃ b o,a=some ⟨b,o,none⟩/\lo<=b/\b<hi/\RowT w lo hi b ks o)
def RowT (w:World) (lo hi b:Nat):List Tr->Nat->Prop
 | [],_=>True
 |k::ks,o=>(∃ v,TreeAt w lo hi k v/\NodeAt w b o k v)/\RowT w lo hi b ks (o+14)
end
def TreeAt.eq {w:World} {lo hi:Nat} {t:Tr} {v:Value}:TreeAt w lo hi t v↔ ∃ a c,v= .slice a t.kids.length c/\t.kids.length<=c/\t.kids.length<=9223372036854775807/\(0<t.kids.length-> ∃ b o,a=some ⟨b,o,none⟩/\lo<=b/\b<hi/\RowT w lo hi b t.kids o):=by cases t;rw[TreeAt];rfl
def RowT.get {w:World} {lo hi b:Nat} {ks:List Tr} {o:Nat} (h:RowT w lo hi b ks o) (k:Nat) (a:k<ks.length): ∃ v,TreeAt w lo hi ks[k] v/\NodeAt w b (o+k*14) ks[k] v:=by
 induction ks generalizing o k with
 |nil=>simp at a
 |cons t ks c=>
  rw[RowT] at h
  cases k with
  |zero=>simpa using h.1
  |succ k=>
   have:=c h.2 k (by simpa using a)
   rw[show o+14+k*14=o+(k+1)*14 by omega] at this
   simpa using this
def RowT.of {w:World} {lo hi b:Nat} {ks:List Tr} {o:Nat} (h: ∀ k (a:k<ks.length),∃ v,TreeAt w lo hi ks[k] v/\NodeAt w b (o+k*14) ks[k] v):RowT w lo hi b ks o:=by
 induction ks generalizing o with
 |nil=>rw[RowT];trivial
 |cons t ks c=>
  rw[RowT]
  refine⟨?_,c fun k a=>?_⟩
  ·have:=h 0 cn
   rw[qo,ms] at this
   exact this
  have:=h (k+1) (by simpa using a)
  rw[show o+(k+1)*14=o+14+k*14 by omega] at this
  simpa using this
def TreeAt.form {w:World} {lo hi:Nat} {t:Tr} {v:Value} (h:TreeAt w lo hi t v): ∃ a c,v= .slice a t.kids.length c/\t.kids.length<=c/\t.kids.length<=9223372036854775807:=by obtain⟨a,c,e,b,hm,_⟩:=TreeAt.eq.1 h;exact⟨a,c,e,b,hm⟩
def TreeAt.get {w:World} {lo hi:Nat} {t:Tr} {v:Value} (h:TreeAt w lo hi t v) (n:0<t.kids.length): ∃ b o c,v= .slice (some ⟨b,o,none⟩) t.kids.length c/\t.kids.length<=c/\lo<=b/\b<hi/\
 ∀ k (f:k<t.kids.length),∃ d,TreeAt w lo hi t.kids[k] d/\NodeAt w b (o+k*14) t.kids[k] d:=by
 obtain⟨a,c,e,i,_,g⟩:=TreeAt.eq.1 h;obtain⟨b,o,rfl,m,l,j⟩:=g n;exact⟨b,o,c,e,i,m,l,fun k f=>j.get k f⟩
def TreeAt.leaf {w:World} {lo hi:Nat} {t:Tr} (h:t.kids=[]):TreeAt w lo hi t (.slice none 0 0):=by refine TreeAt.eq.2 ⟨none,0,by rw[h];rfl,by rw[h];simp,by rw[h];simp,fun a=>?_⟩;rw[h] at a;simp at a
def NodeAt.kept {w w':World} {b o:Nat} {t:Tr} {v:Value} (h:NodeAt w b o t v) (c:w'.heap[b]? =w.heap[b]?):NodeAt w' b o t v:=fun j u a=>(sf c).trans (h j u a)
def Tr.yo (t:Tr):1<=Fx.num t:=by cases t;rw[Fx.num];omega
def vd (t:Tr):Fx.num t=1+Fx.nums t.kids:=by cases t;rw[Fx.num];rfl
def yy {ks:List Tr} {k:Nat} (h:k<ks.length):Fx.num ks[k]<=Fx.nums ks:=by
 induction ks generalizing k with
 |nil=>simp at h
 |cons t ks a=>
  rw[Fx.nums]
  cases k with
  |zero=>simp
  |succ k=>have:=a (k:=k) nu;simp only[Np];omega
def TreeAt.kept {w w':World} {lo hi f d:Nat} (hl:f<=lo) (B:hi<=d) (r: ∀ k,lo<=k->k<hi->w'.heap[k]? =w.heap[k]?): ∀ (n:Nat) {t:Tr} {v:Value},Fx.num t<=n->TreeAt w lo hi t v->TreeAt w' f d t v:=by
 intro n
 induction n with
 |zero=>intro t v hn;have:=Tr.yo t;omega
 |succ n m=>
  intro t v hn h
  obtain⟨a,c,e,s,hm,q⟩:=TreeAt.eq.1 h
  refine TreeAt.eq.2 ⟨a,c,e,s,hm,fun z=>?_⟩
  obtain⟨b,o,A,y,x,u⟩:=q z
  refine⟨b,o,A,by omega,by omega,RowT.of fun k g=>?_⟩
  obtain⟨i,l,j⟩:=u.get k g
  rw[vd] at hn
  have:=yy g
  exact⟨i,m aG l,j.kept (r b y x)⟩
def TreeAt.below {w w':World} {lo hi C:Nat} {t:Tr} {v:Value} (h:TreeAt w lo hi t v) (hb:Below C w w') (b:hi<=C):TreeAt w' lo hi t v:=
 TreeAt.kept cm cm (fun k _ a=>hb.block k aG) _ cm h
def NodeAt.all {w:World} {b o:Nat} {t:Tr} {v:Value} (h:NodeAt w b o t v):
 w.cell? ⟨b,o,none⟩=some (.int .i64 t.kind)/\w.cell? ⟨b,o+1,none⟩=some (.int .u64 (t.bits:Nat))/\w.cell? ⟨b,o+2,none⟩=some (.string ⟨t.txt.toArray⟩)/\w.cell? ⟨b,o+3,none⟩=some (.bool t.is)/\w.cell? ⟨b,o+4,none⟩=some (.int .i64 t.fail)/\
 w.cell? ⟨b,o+5,none⟩=some (.int .i64 t.a.col)/\w.cell? ⟨b,o+6,none⟩=some (.int .i64 t.a.row)/\w.cell? ⟨b,o+7,none⟩=some (.bool t.a.ac)/\w.cell? ⟨b,o+8,none⟩=some (.bool t.a.ar)/\
 w.cell? ⟨b,o+9,none⟩=some (.int .i64 t.b.col)/\w.cell? ⟨b,o+10,none⟩=some (.int .i64 t.b.row)/\w.cell? ⟨b,o+11,none⟩=some (.bool t.b.ac)/\w.cell? ⟨b,o+12,none⟩=some (.bool t.b.ar)/\w.cell? ⟨b,o+13,none⟩=some v:=
 ⟨h 0 _ rfl,h 1 _ rfl,h 2 _ rfl,h 3 _ rfl,h 4 _ rfl,h 5 _ rfl,h 6 _ rfl,h 7 _ rfl,h 8 _ rfl,h 9 _ rfl,h 10 _ rfl,h 11 _ rfl,h 12 _ rfl,h 13 _ rfl⟩
def RowT.kid {w wr:World} {lo hi b o k:Nat} {ks:List Tr} (h:RowT w lo hi b ks o) (p:k<ks.length) (hb:wr.heap[b]? =w.heap[b]?):
 ∃ (K:Int) (X:Nat) (T:ByteArray) (I:Bool) (F l j:Int) (i a4:Bool) (g b2:Int) (f e:Bool) (a:Option Addr) (n c:Nat),
   trv ks[k] (.slice a n c)= .agg #[.int .i64 K,.int .u64 (X:Nat),.string T,.bool I,.int .i64 F,.int .i64 l,.int .i64 j,.bool i,.bool a4,.int .i64 g,.int .i64 b2,.bool f,.bool e,.slice a n c]/\TreeAt w lo hi ks[k] (.slice a n c)/\
   wr.cell? ⟨b,o+k*14,none⟩=some (.int .i64 K)/\wr.cell? ⟨b,o+k*14+1,none⟩=some (.int .u64 (X:Nat))/\wr.cell? ⟨b,o+k*14+2,none⟩=some (.string T)/\wr.cell? ⟨b,o+k*14+3,none⟩=some (.bool I)/\wr.cell? ⟨b,o+k*14+4,none⟩=some (.int .i64 F)/\
   wr.cell? ⟨b,o+k*14+5,none⟩=some (.int .i64 l)/\wr.cell? ⟨b,o+k*14+6,none⟩=some (.int .i64 j)/\wr.cell? ⟨b,o+k*14+7,none⟩=some (.bool i)/\wr.cell? ⟨b,o+k*14+8,none⟩=some (.bool a4)/\
   wr.cell? ⟨b,o+k*14+9,none⟩=some (.int .i64 g)/\wr.cell? ⟨b,o+k*14+10,none⟩=some (.int .i64 b2)/\wr.cell? ⟨b,o+k*14+11,none⟩=some (.bool f)/\wr.cell? ⟨b,o+k*14+12,none⟩=some (.bool e)/\wr.cell? ⟨b,o+k*14+13,none⟩=some (.slice a n c):=by
 obtain⟨q,d,m⟩:=h.get k p;obtain⟨s,r,rfl, -, -⟩:=d.form;exact⟨_,_,_,_,_,_,_,_,_,_,_,_,_,_,_,_,rfl,d,(m.kept hb).all⟩
def TreeAt.flat {w:World} {lo hi:Nat} {t:Tr} {v:Value} (h:TreeAt w lo hi t v):
 ∃ (K:Int) (X:Nat) (T:ByteArray) (I:Bool) (F j i:Int) (g a4:Bool) (f b2:Int) (e d:Bool) (a:Option Addr) (n c:Nat),
   v= .slice a n c/\trv t v= .agg #[.int .i64 K,.int .u64 (X:Nat),.string T,.bool I,.int .i64 F,.int .i64 j,.int .i64 i,.bool g,.bool a4,.int .i64 f,.int .i64 b2,.bool e,.bool d,.slice a n c]/\
   t= .mk K X T.data.toList I F ⟨j,i,g,a4⟩ ⟨f,b2,e,d⟩ t.kids/\n=t.kids.length/\n<=c/\n<=9223372036854775807/\(0<n-> ∃ b o,a=some ⟨b,o,none⟩/\lo<=b/\b<hi/\RowT w lo hi b t.kids o):=by
 obtain⟨a,c,rfl,l,hm,k⟩:=TreeAt.eq.1 h;refine⟨_,_,_,_,_,_,_,_,_,_,_,_,_,a,_,c,rfl,rfl,?_,rfl,l,hm,k⟩;cases t;rfl
end

def Ou (n:Int) (w:World):Calls prog 14 #[.int .i64 n] w (Ret0 (.string ⟨(Fx.jq n).toArray⟩) w):=by
 obtain⟨r,a⟩:=bx (⟨(Fx.jq n).toArray⟩:ByteArray);rw[<-a];have HR:=aL a;clear a;by_cases h1:n=1
 ·subst h1;go_enter func14,ntmps14;go_wp2;go_ret;exact Ret0.of xJ
 by_cases h2:n=2
 ·subst h2;go_enter func14,ntmps14;go_wp2;go_ret;exact Ret0.of xJ
 by_cases h3:n=3
 ·subst h3;go_enter func14,ntmps14;go_wp2;go_ret;exact Ret0.of xJ
 by_cases h4:n=4
 ·subst h4;go_enter func14,ntmps14;go_wp2;go_ret;exact Ret0.of xJ
 by_cases h5:n=5
 ·subst h5;go_enter func14,ntmps14;go_wp2;go_ret;exact Ret0.of xJ
 by_cases h6:n=6
 ·subst h6;go_enter func14,ntmps14;go_wp2;go_ret;exact Ret0.of xJ
 by_cases h7:n=7
 ·subst h7;go_enter func14,ntmps14;go_wp2;go_ret;exact Ret0.of xJ
 by_cases h8:n=8
 ·subst h8;go_enter func14,ntmps14;go_wp2;go_ret;exact Ret0.of xJ
 refine yht ?_;intro HV;have j:(n==1)=false:=gN.2 h1;have i:(n==2)=false:=gN.2 h2;have g:(n==3)=false:=gN.2 h3;have f:(n==4)=false:=gN.2 h4;have e:(n==5)=false:=gN.2 h5;have d:(n==6)=false:=gN.2 h6;have c:(n==7)=false:=gN.2 h7;have b:(n==8)=false:=gN.2 h8;go_enter func14,ntmps14;go_wp2;go_ret;exact Ret0.of (by rw[HV.out];rfl)
def vq (s:ByteArray) (l:List UInt8):(s.toList==l)=decide (s.data.toList=l):=by rw[sT];by_cases h:s.data.toList=l<;>simp[h]
def Es (s:ByteArray) (w:World):Calls prog 50 #[.string s] w (Ret0 (.int .i64 (Fx.eT s.data.toList:Nat)) w):=by
 refine ygE ?_;intro e1 e2 e3 e4 e5 e6 e7 e8 e9 gb ia fP r hr;generalize s.data.toList=l at *;by_cases a:l=[61]
 ·have HR:=aL (show r=1 by rw[hr,a];rfl);rw[fv a] at e1;clear e2 e3 e4 e5 e6 e7 e8 e9 gb ia fP hr a;exact wL
 rw[eL a] at e1;by_cases b:l=[60,62]
 ·have HR:=aL (show r=1 by rw[hr,b];rfl);rw[fv b] at e2;clear e3 e4 e5 e6 e7 e8 e9 gb ia fP hr a b;exact wL
 rw[eL b] at e2;by_cases c:l=[60]
 ·have HR:=aL (show r=1 by rw[hr,c];rfl);rw[fv c] at e3;clear e4 e5 e6 e7 e8 e9 gb ia fP hr a b c;exact wL
 rw[eL c] at e3;by_cases d:l=[60,61]
 ·have HR:=aL (show r=1 by rw[hr,d];rfl);rw[fv d] at e4;clear e5 e6 e7 e8 e9 gb ia fP hr a b c d;exact wL
 rw[eL d] at e4;by_cases e:l=[62]
 ·have HR:=aL (show r=1 by rw[hr,e];rfl);rw[fv e] at e5;clear e6 e7 e8 e9 gb ia fP hr a b c d e;exact wL
 rw[eL e] at e5;by_cases f:l=[62,61]
 ·have HR:=aL (show r=1 by rw[hr,f];rfl);rw[fv f] at e6;clear e7 e8 e9 gb ia fP hr a b c d e f;exact wL
 rw[eL f] at e6;rw[bv (by simp[a,b,c,d,e,f])] at hr;by_cases g:l=[38]
 ·have HR:=aL (show r=2 by rw[hr,bT g]);rw[fv g] at e7;clear e8 e9 gb ia fP hr a b c d e f g;exact wL
 rw[eL g] at e7;rw[bv g] at hr;by_cases i:l=[43]
 ·have HR:=aL (show r=3 by rw[hr,bT (Or.inl i)]);rw[fv i] at e8;clear e9 gb ia fP hr a b c d e f g i;exact wL
 rw[eL i] at e8;by_cases j:l=[45]
 ·have HR:=aL (show r=3 by rw[hr,bT (Or.inr j)]);rw[fv j] at e9;clear gb ia fP hr a b c d e f g i j;exact wL
 rw[eL j] at e9;rw[bv (by simp[i,j])] at hr;by_cases m:l=[42]
 ·have HR:=aL (show r=4 by rw[hr,bT (Or.inl m)]);rw[fv m] at gb;clear ia fP hr a b c d e f g i j m;exact wL
 rw[eL m] at gb;by_cases n:l=[47]
 ·have HR:=aL (show r=4 by rw[hr,bT (Or.inr n)]);rw[fv n] at ia;clear fP hr a b c d e f g i j m n;exact wL
 rw[eL n] at ia;rw[bv (by simp[m,n])] at hr;by_cases o:l=[94]
 ·have HR:=aL (show r=5 by rw[hr,bT o]);rw[fv o] at fP;clear hr a b c d e f g i j m n o;exact wL
 rw[eL o] at fP;rw[bv o] at hr;have HR:=aL hr;clear hr a b c d e f g i j m n o;exact wL

def i6 (h g:Int) (f e:Bool) (d c:Int) (b a:Bool):Bool:=h==d&&(g==c&&(f==b&&e==a))
def ysK (d c:Int) (b a:Bool):i6 d c b a d c b a=true:=by simp[i6]
def yuu:prog.underlying 24=some (.struct (prog.fieldsOf 24)):=cI
def ywD:prog.stoodInHeld 24=false:=cI
def ynD:prog.eqGuardType prog.depth 24=false:=cI
def yn4:(prog.fieldsOf 24).toList.map (fun f=>(f.type,f.offset,f.name== "_"))=[(3,0,false),(3,1,false),(4,2,false),(4,3,false)]:=cI
def Wc (op:BinOp) (x y:Operand) (xs ys:Array Value) (w:World):(eqGuard op 24 x y (.agg xs) (.agg ys)).run prog w= .ok () w:=yeh _ _ _ _ _ _ _ ynD
def yid (m l:Int) (k j:Bool) (i h:Int) (g f:Bool) (w:World):
 (Op.equalIn 10000 24 (.agg #[.int .i64 m,.int .i64 l,.bool k,.bool j]) (.agg #[.int .i64 i,.int .i64 h,.bool g,.bool f])).run prog w= .ok (i6 m l k j i h g f) w:=by
 rw[ye2 _ 9999 _ _ _ yuu ywD];have e:=yn4;generalize (prog.fieldsOf 24).toList =n at e;have hl:=dZ List.length e;rw[G0] at hl
 obtain⟨r,q,p,o,rfl⟩: ∃ r q p o,n=[r,q,p,o]:=by
  match n,hl with
  | [a,b,c,d],_=>exact⟨a,b,c,d,rfl⟩
 simp only[ya,M8,yaw,st,Xy] at e;obtain⟨⟨t0,z,D⟩,⟨u,y,C⟩,⟨t,x,B⟩,⟨s,v,A⟩⟩:=e;have H:=gN.1 D;have G:=gN.1 C;have F:=gN.1 B;have E:=gN.1 A;simp[Op.eqFields,i6,go_sem,t0,u,t,s,z,y,x,v,H,G,F,E,underlying3,underlying4];by_cases L:m=i<;>by_cases K:l=h<;>by_cases J:k=g<;>by_cases I:j=f<;>simp[L,K,J,I]
def W2 (h g:Int) (f e:Bool) (d c:Int) (b a:Bool) (w:World):
 (binOp .neq 24 (.agg #[.int .i64 h,.int .i64 g,.bool f,.bool e]) (.agg #[.int .i64 d,.int .i64 c,.bool b,.bool a])).run prog w= .ok (.bool (!(i6 h g f e d c b a))) w:=by
 rw[ydW,yid];rfl
def Xn (h g:Int) (f e:Bool) (d c:Int) (b a:Bool) (w:World):
 (binOp .eql 24 (.agg #[.int .i64 h,.int .i64 g,.bool f,.bool e]) (.agg #[.int .i64 d,.int .i64 c,.bool b,.bool a])).run prog w= .ok (.bool (i6 h g f e d c b a)) w:=by
 rw[run_eql_struct,yid];rfl

namespace Fx
open Dc (Bs cu)
def zU (p:UInt8->Bool) (l:Bs):(l.dropWhile p).length <=l.length:=(Kp p).length_le
def ygu (p:UInt8->Bool) (c:UInt8) (l:Bs) (h:p c=true):((c::l).dropWhile p).length <=l.length:=by rw[RM h];exact zU p l
def yP (l:Bs):(skip l).length <=l.length:=by
 induction l using skip.induct with
 |case1 s b=>rw[skip];simp only[gE];omega
 |case2 c s a h b=>rw[skip];rw[bT h];simp only[gE];omega;exact a
 |case3 c s a h=>rw[skip];rw[bv h];omega;exact a
 |case4=>simp[skip]
def N1 {D:UInt8} {s r:Bs} (h:cutD D s=some r):s=D::r:=by
 cases s with
 |nil=>simp[cutD] at h
 |cons c s=>
  simp only[cutD] at h;split at h
  ·rename_i e;injection h with h;rw[e,h]
  ·simp at h
def ytv (D:UInt8) (s:Bs):(mant D s).2.2.length <=s.length:=by
 unfold mant;split
 ·rename_i r h
  have:=N1 h;have a:=zU cu s;have b:=zU cu r;rw[this] at a;simp only[gE] at a ⊢;omega
 ·exact zU cu s
def ylZ (s:Bs):(expo s).2.length <=s.length:=by
 unfold expo;split
 ·simp
 ·rename_i c r
  split
  ·split
   ·simp
   ·rename_i d q
    have b:=zU cu q;have a:=zU cu (d::q);split
    ·split
     ·simp
     ·simp only[gE];omega
    ·split
     ·simp
     ·simp only[gE] at a ⊢;omega
  ·simp
def yix (D c:UInt8) (r:Bs) (h:(cu c || oT D (c::r))=true):(ou D (c::r)).end'.length <(c::r).length :=by
 have j:=ylZ (mant D (c::r)).2.2
 have i:(mant D (c::r)).2.2.length <=r.length:=by
  by_cases b:cu c=true
  ·unfold mant;have d:=ygu cu c r b;split
   ·rename_i q e
    have:=N1 e;have g:=zU cu q;rw[this] at d;simp only[gE] at d ⊢;omega
   ·exact d
  ·have a:oT D (c::r)=true:=by simpa[b] using h
   unfold oT at a;unfold mant;rw[yV b]
   cases e:cutD D (c::r) with
   |none=>rw[e] at a;simp at a
   |some q=>
    have:=N1 e
    injection this with _ f
    subst f
    exact zU cu r
 unfold ou;simp only[gE];omega
def yjf {s t l:Bs} (h:quot s=some (t,l)):l.length<s.length:=by
 induction s using quot.induct generalizing t l with
 |case1=>simp[quot] at h
 |case2 s a=>
  rw[quot] at h
  cases e:quot s with
  |none=>rw[e] at h;simp at h
  |some p=>rw[e] at h;simp only[yd,vO,st] at h;have:=a (t:=p.1) (l:=p.2) e;simp only[gE];rw[<-h.2];omega
 |case3 s b=>
  rw[quot] at h
  ·simp only[lG,vO,st] at h;rw[<-h.2];simp
  ·exact b
 |case4 c s b d a=>
  rw[quot] at h
  ·rw[bv d] at h
   cases e:quot s with
   |none=>rw[e] at h;simp at h
   |some p=>rw[e] at h;simp only[yd,vO,st] at h;have:=a (t:=p.1) (l:=p.2) e;simp only[gE];rw[<-h.2];omega
  ·exact b
def ydE {s:Bs} {n:Nat} (h:pq s=some n):1<=n/\n<=8/\Lib.hasPrefix s (jq (n:Nat))=true:=by unfold pq at h;have b:=yiC h;have a:=List.find?_some h;simp only[sC,yF,yR] at b;exact⟨by omega,by omega,a⟩
def ymO: ∀ n:Nat,1<=n->n<=8->1<=(jq (n:Nat)).length :=by intro n b a;have:n=1∨n=2∨n=3∨n=4∨n=5∨n=6∨n=7∨n=8:=aG;rcases this with rfl|rfl|rfl|rfl|rfl|rfl|rfl|rfl<;>decide
def Om {L:UInt8} {s g:Bs} (h:ss L s=some g):g ∈ signs L/\1<=g.length/\Lib.hasPrefix s g=true:=by unfold ss at h;have a:=yiC h;have b:=List.find?_some h;refine⟨a,?_,b⟩;unfold signs at a;simp only[sC,yF,yR] at a;rcases a with rfl|rfl|rfl|rfl|rfl|rfl|rfl|rfl|rfl|rfl|rfl|rfl|rfl|rfl|rfl|rfl|rfl<;>simp
def ye7 (D L:UInt8) (s:Bs):(tokS D L s).at' =s/\((tokS D L s).kind ≠0->(tokS D L s).kind ≠6->(tokS D L s).end'.length <s.length)/\(tokS D L s).end'.length <=s.length:=by
 cases s with
 |nil=>simp[tokS]
 |cons c r=>
  unfold tokS
  simp only
  split
  ·rename_i h
   have:=yix D c r h
   exact⟨by first|rfl|simp,fun _ _=>this,by omega⟩
  ·split
   ·split
    ·rename_i t l e
     have:=yjf e
     simp only[gE]
     refine⟨by first|rfl|simp,fun _ _=>by omega,by omega⟩
    ·refine⟨by first|rfl|simp,fun _ h=>by simp at h,by simp⟩
   ·split
    ·rename_i h
     have b:j1 c=true:=by unfold j1;rcases zL.1 h with h|h<;>simp[h]
     have:=ygu j1 c r b
     simp only[gE]
     refine⟨by first|rfl|simp,fun _ _=>by omega,by omega⟩
    ·split
     ·rename_i n e
      obtain⟨a,d,_⟩:=ydE e
      have:=ymO n a d
      simp only[rS,gE]
      refine⟨by first|rfl|simp,fun _ _=>by omega,by omega⟩
     ·split
      ·rename_i g e
       obtain⟨_,a,_⟩:=Om e
       simp only[rS,gE]
       refine⟨by first|rfl|simp,fun _ _=>by omega,by omega⟩
      ·refine⟨by first|rfl|simp,fun _ h=>by simp at h,by simp⟩
def yuw (D L:UInt8) (l:Bs):(tok D L l).at' =skip l:=(ye7 D L (skip l)).1
def zI (D L:UInt8) (l:Bs) (h:(tok D L l).kind ≠0) (a:(tok D L l).kind ≠6):(tok D L l).end'.length <l.length:=
 eR ((ye7 D L (skip l)).2.1 h a) (yP l)
def KR (D L:UInt8) (l:Bs):(tok D L l).end'.length <=l.length:=dE (ye7 D L (skip l)).2.2 (yP l)
def oV {D L:UInt8} {l:Bs} (h:(tok D L l).kind =5):(tok D L l).end'.length <l.length:=zI D L l aG aG
def ym8 {D L:UInt8} {t:Tk} {e:Tr} {l:Bs} (h:word D L t= .ok e l):l.length<=t.end'.length:=by
 unfold word at h;split at h
 ·injection h with b a;rw[a];exact cm
 ·split at h
  ·simp at h
  ·split at h
   ·rename_i d
    have g:=oV d.1;simp only at h;split at h
    ·simp[no] at h
    ·rename_i c
     split at h
     ·simp at h
     ·injection h with b a
      have:(tok D L (tok D L t.end').end').kind =3:=by
       rcases Decidable.em ((tok D L (tok D L t.end').end').kind =3) with h|h
       ·exact h
       ·exact absurd (Or.inl h) c
      have f:=zI D L (tok D L t.end').end' aG aG;rw[<-a];omega
   ·injection h with b a;rw[a];exact cm
def ybH (D L:UInt8) (f:Nat):(∀ n op l e a,expr D L f n op l= .ok e a->a.length<l.length)/\(∀ n op g l e a,loop D L f n op g l= .ok e a->a.length<=l.length)/\
 (∀ op l e a,nE D L f op l= .ok e a->a.length<l.length)/\(∀ g l e a,post D L f g l= .ok e a->a.length<=l.length)/\(∀ op l e a,nl D L f op l= .ok e a->a.length<l.length)/\
 (∀ op j l e a,call D L f op j l= .ok e a->a.length<=l.length)/\(∀ op j ks l e a,args D L f op j ks l= .ok e a->a.length<=l.length):=by
 induction f with
 |zero=>refine⟨?_,?_,?_,?_,?_,?_,?_⟩<;>intros<;>rename_i h<;>simp[expr,loop,nE,post,nl,call,args] at h
 |succ f w=>
  obtain⟨o,u,t,s,y,x,r⟩:=w
  refine⟨?_,?_,?_,?_,?_,?_,?_⟩
  ·intro n op l e a h
   rw[expr] at h
   split at h
   ·exact t _ _ _ _ h
   ·split at h
    ·rename_i m k b
     have i:=o _ _ _ _ _ b
     have q:=u _ _ _ _ _ _ h
     omega
    ·simp at h
  ·intro n op g l e a h
   rw[loop] at h
   split at h
   ·rename_i d
    have a0:=oV d.1
    split at h
    ·rename_i m k b
     have i:=o _ _ _ _ _ b
     have q:=u _ _ _ _ _ _ h
     omega
    ·simp at h
   ·injection h with b c;rw[c];exact cm
  ·intro op l e a h
   rw[nE] at h
   split at h
   ·rename_i d
    have a0:=oV d.1
    split at h
    ·simp at h
    ·split at h
     ·rename_i m k b
      have i:=t _ _ _ _ b
      injection h with b c
      rw[<-c];omega
     ·simp at h
   ·split at h
    ·rename_i m k b
     have i:=y _ _ _ _ b
     have q:=s _ _ _ _ h
     omega
    ·simp at h
  ·intro g l e a h
   rw[post] at h
   split at h
   ·rename_i d
    have a0:=oV d.1
    have i:=s _ _ _ _ h
    omega
   ·injection h with b c;rw[c];exact cm
  ·intro op l e a h
   rw[nl] at h
   (try simp only at h)
   split at h
   ·rename_i d
    have a0:=zI D L l aG aG
    split at h
    ·injection h with b c;rw[<-c];exact a0
    ·simp at h
   ·split at h
    ·rename_i d
     have a0:=zI D L l aG aG
     split at h
     ·simp at h
     ·injection h with b c;rw[<-c];exact a0
    ·split at h
     ·rename_i d
      have a0:=zI D L l aG aG
      injection h with b c;rw[<-c];exact a0
     ·split at h
      ·rename_i d
       have a0:=zI D L l aG aG
       split at h
       ·split at h
        ·have:=x _ _ _ _ _ h;omega
        ·simp at h
       ·have:=ym8 h;omega
      ·split at h
       ·rename_i d
        have a0:=oV d.1
        split at h
        ·simp at h
        ·split at h
         ·rename_i m k b
          have i:=o _ _ _ _ _ b
          split at h
          ·rename_i v
           have q:=oV v.1
           injection h with b c;rw[<-c];omega
          ·simp[no] at h
         ·simp at h
       ·simp[no] at h
  ·intro op j l e a h
   rw[call] at h
   have z:=KR D L l
   have b2:=KR D L (tok D L l).end'
   split at h
   ·simp at h
   ·split at h
    ·injection h with b c;rw[<-c];omega
    ·have:=r _ _ _ _ _ _ h;omega
  ·intro op j ks l e a h
   rw[args] at h
   split at h
   ·rename_i m k b
    have i:=o _ _ _ _ _ b
    (try simp only at h)
    split at h
    ·rename_i d
     have q:=oV d.1
     split at h
     ·injection h with b c;rw[<-c];omega
     ·split at h
      ·simp at h
      ·have:=r _ _ _ _ _ _ h;omega
    ·simp[no] at h
   ·simp at h
end Fx

namespace Fx
open Dc (Bs cu)
def uT (D L:UInt8) (f:Nat): ∀ b:Nat,
 (∀ n op l,1<=n->n<=6->12*l.length+10-n<f->12*l.length+10-n<b->expr D L f n op l=expr D L b n op l)/\
 (∀ n op g l,1<=n->n<=5->12*l.length+11<f->12*l.length+11<b->loop D L f n op g l=loop D L b n op g l)/\
 (∀ op l,12*l.length+3<f->12*l.length+3<b->nE D L f op l=nE D L b op l)/\
 (∀ g l,12*l.length+11<f->12*l.length+11<b->post D L f g l=post D L b g l)/\
 (∀ op l,12*l.length+2<f->12*l.length+2<b->nl D L f op l=nl D L b op l)/\
 (∀ op c l,12*l.length+12<f->12*l.length+12<b->call D L f op c l=call D L b op c l)/\
 (∀ op c ks l,12*l.length+11<f->12*l.length+11<b->args D L f op c ks l=args D L b op c ks l):=by
 induction f with
 |zero=>intro b;refine⟨?_,?_,?_,?_,?_,?_,?_⟩<;>intros<;>omega
 |succ g F=>
  intro b
  cases b with
  |zero=>refine⟨?_,?_,?_,?_,?_,?_,?_⟩<;>intros<;>omega
  |succ m=>
   obtain⟨s,C,B,A,H,G,z⟩:=F m
   obtain⟨v,P,O,N,E,M,K⟩:=ybH D L m
   refine⟨?_,?_,?_,?_,?_,?_,?_⟩
   ·intro n op l d Q k o
    rw[expr,expr]
    by_cases hn:n=6
    ·rw[bT hn,bT hn];exact B _ _ aG aG
    ·rw[bv hn,bv hn,s (n+1) op l aG aG aG aG]
     cases e:expr D L m (n+1) op l with
     |ok t i=>have:=v _ _ _ _ _ e;exact C _ _ _ _ d aG aG aG
     |er x p=>rfl
   ·intro n op J l d I k o
    rw[loop,loop]
    by_cases a:(tok D L l).kind =5/\eT (tok D L l).text =n
    ·have a0:=oV a.1
     rw[bT a,bT a,s (n+1) op _ aG aG aG aG]
     cases e:expr D L m (n+1) op (tok D L l).end' with
     |ok t i=>have:=v _ _ _ _ _ e;exact C _ _ _ _ d I aG aG
     |er x p=>rfl
    ·rw[bv a,bv a]
   ·intro op l k o
    rw[nE,nE]
    by_cases a:(tok D L l).kind =5/\eT (tok D L l).text =3
    ·have a0:=oV a.1
     rw[bT a,bT a,B (op+1) _ aG aG]
    ·rw[bv a,bv a,H op l aG aG]
     cases e:nl D L m op l with
     |ok t i=>have:=E _ _ _ _ e;exact A _ _ aG aG
     |er x p=>rfl
   ·intro J l k o
    rw[post,post]
    by_cases a:(tok D L l).kind =5/\(tok D L l).text =[37]
    ·have a0:=oV a.1
     rw[bT a,bT a,A _ _ aG aG]
    ·rw[bv a,bv a]
   ·intro op l k o
    rw[nl,nl]
    by_cases j:(tok D L l).kind =1
    ·simp only[bT j]
    by_cases q:(tok D L l).kind =2
    ·simp only[bv j,bT q]
    by_cases r:(tok D L l).kind =4
    ·simp only[bv j,bv q,bT r]
    by_cases y:(tok D L l).kind =3
    ·have a0:=zI D L l aG aG
     simp only[bv j,bv q,bv r,bT y,G op (Ce.eY (tok D L l).text) (tok D L l).end' aG aG]
    by_cases w:(tok D L l).kind =5/\(tok D L l).text =[40]
    ·have a0:=oV w.1
     simp only[bv j,bv q,bv r,bv y,bT w,s 1 (op+1) (tok D L l).end' aG aG aG aG]
    ·simp only[bv j,bv q,bv r,bv y,bv w]
   ·intro op c l k o
    rw[call,call]
    have R:=KR D L l
    by_cases d:op=100
    ·rw[bT d,bT d]
    ·rw[bv d,bv d]
     by_cases u:(tok D L (tok D L l).end').kind =5/\(tok D L (tok D L l).end').text =[41]
     ·rw[bT u,bT u]
     ·rw[bv u,bv u]
      exact z _ _ _ _ aG aG
   ·intro op c ks l k o
    rw[args,args,s 1 op l aG aG aG aG]
    cases e:expr D L m 1 op l with
    |ok t i=>
     have:=v _ _ _ _ _ e
     simp only[]
     by_cases a:(tok D L i).kind =5/\((tok D L i).text =[41]∨(tok D L i).text =[L])
     ·have S:=oV a.1
      rw[bT a,bT a,z op c _ (tok D L i).end' aG aG]
     ·rw[bv a,bv a]
    |er x p=>rfl
def jr (D L:UInt8) (n op:Nat) (l:Bs):Rs:=expr D L (fuel l) n op l
def vF (D L:UInt8) (n op:Nat) (e:Tr) (l:Bs):Rs:=loop D L (fuel l) n op e l
def yA (D L:UInt8) (op:Nat) (l:Bs):Rs:=nE D L (fuel l) op l
def vj (D L:UInt8) (e:Tr) (l:Bs):Rs:=post D L (fuel l) e l
def vz (D L:UInt8) (op:Nat) (l:Bs):Rs:=nl D L (fuel l) op l
def Hc (D L:UInt8) (op:Nat) (a l:Bs):Rs:=call D L (fuel l) op a l
def yG (D L:UInt8) (op:Nat) (a:Bs) (ks:List Tr) (l:Bs):Rs:=args D L (fuel l) op a ks l
def Rs.bind (r:Rs) (k:Tr->Bs->Rs):Rs:=match r with | .ok e l=>k e l | .er e p=> .er e p
variable {D L:UInt8}
def Iw {n op:Nat} {l a:Bs} {e:Tr} (h:jr D L n op l= .ok e a):a.length<l.length:=(ybH D L _).1 _ _ _ _ _ h
def yvn {op:Nat} {l a:Bs} {e:Tr} (h:vz D L op l= .ok e a):a.length<l.length:=(ybH D L _).2.2.2.2.1 _ _ _ _ h
def Dk (l:Bs):fuel l=(12*l.length+19)+1:=rfl
def OJ (op:Nat) (l:Bs):jr D L 6 op l=yA D L op l:=by unfold jr yA;rw[Dk,expr,bT rfl];exact(uT D L _ _).2.2.1 _ _ aG aG
def LD {n:Nat} (op:Nat) (l:Bs) (b:1<=n) (a:n<=5):jr D L n op l=(jr D L (n+1) op l).bind (vF D L n op):=by
 have c:expr D L (12*l.length+19) (n+1) op l=jr D L (n+1) op l:=(uT D L _ _).1 _ _ _ aG aG aG vi;conv=>lhs;unfold jr
 rw[Dk,expr,bv aG,c]
 cases e:jr D L (n+1) op l with
 |ok t d=>
  have:=Iw e
  exact(uT D L _ _).2.1 _ _ _ _ b a aG vi
 |er x p=>rfl
def XV {n:Nat} (op:Nat) (e:Tr) (l:Bs) (d:1<=n) (c:n<=5):vF D L n op e l=
 if(tok D L l).kind =5/\eT (tok D L l).text =n then(jr D L (n+1) op (tok D L l).end').bind (fun g b=>vF D L n op (nod 8 (tok D L l).text [e,g]) b) else .ok e l:=by
 conv=>lhs;unfold vF
 rw[Dk,loop];by_cases a:(tok D L l).kind =5/\eT (tok D L l).text =n
 ·have a0:=oV a.1;have f:expr D L (12*l.length+19) (n+1) op (tok D L l).end' =jr D L (n+1) op (tok D L l).end' :=(uT D L _ _).1 _ _ _ aG aG aG vi;rw[bT a,bT a,f]
  cases e:jr D L (n+1) op (tok D L l).end' with
  |ok t b=>
   have:=Iw e
   exact(uT D L _ _).2.1 _ _ _ _ d c aG vi
  |er x p=>rfl
 ·rw[bv a,bv a]
def J5 (op:Nat) (l:Bs):yA D L op l=
 if(tok D L l).kind =5/\eT (tok D L l).text =3 then
  if op=100 then .er 7 (tok D L l).at' else(yA D L (op+1) (tok D L l).end').bind (fun e c=> .ok (nod 7 (tok D L l).text [e]) c)
 else(vz D L op l).bind (vj D L):=by
 conv=>lhs;unfold yA
 rw[Dk,nE];by_cases a:(tok D L l).kind =5/\eT (tok D L l).text =3
 ·have a0:=oV a.1;have b:nE D L (12*l.length+19) (op+1) (tok D L l).end' =yA D L (op+1) (tok D L l).end' :=(uT D L _ _).2.2.1 _ _ aG vi;rw[bT a,bT a,b];rfl
 ·have b:nl D L (12*l.length+19) op l=vz D L op l:=(uT D L _ _).2.2.2.2.1 _ _ aG vi;rw[bv a,bv a,b]
  cases e:vz D L op l with
  |ok t c=>
   have:=yvn e
   exact(uT D L _ _).2.2.2.1 _ _ aG vi
  |er x p=>rfl
def XF (e:Tr) (l:Bs):vj D L e l=if(tok D L l).kind =5/\(tok D L l).text =[37] then vj D L (nod 9 [37] [e]) (tok D L l).end' else .ok e l:=by
 conv=>lhs;unfold vj
 rw[Dk,post];by_cases a:(tok D L l).kind =5/\(tok D L l).text =[37]
 ·have a0:=oV a.1;rw[bT a,bT a];exact(uT D L _ _).2.2.2.1 _ _ aG vi
 ·rw[bv a,bv a]
def sS (op:Nat) (l:Bs):vz D L op l=
 if(tok D L l).kind =1 then(match numb (tok D L l).text (tok D L l).exp with|some x=> .ok (.mk 1 x [] false 0 Ce.zero Ce.zero []) (tok D L l).end' |none=> .er 2 (tok D L l).at')
 else if(tok D L l).kind =2 then(if 1000<(tok D L l).text.length then .er 4 (tok D L l).at' else .ok (nod 2 (tok D L l).text []) (tok D L l).end')
 else if(tok D L l).kind =4 then .ok (.mk 4 0 [] false (tok D L l).exp Ce.zero Ce.zero []) (tok D L l).end'
 else if(tok D L l).kind =3 then
  if Lib.hasPrefix (tok D L l).end' [40]=true then(if oF (Ce.eY (tok D L l).text)=true then Hc D L op (Ce.eY (tok D L l).text) (tok D L l).end' else .er 8 (tok D L l).at')
  else word D L (tok D L l)
 else if(tok D L l).kind =5/\(tok D L l).text =[40] then
  if op=100 then .er 7 (tok D L l).at' else(jr D L 1 (op+1) (tok D L l).end').bind fun e c=>if(tok D L c).kind =5/\(tok D L c).text =[41] then .ok e (tok D L c).end' else no D L c
 else no D L l:=by
 conv=>lhs;unfold vz
 rw[Dk,nl];by_cases a:(tok D L l).kind =1
 ·simp only[bT a]<;>rfl
 by_cases b:(tok D L l).kind =2
 ·simp only[bv a,bT b]
 by_cases d:(tok D L l).kind =4
 ·simp only[bv a,bv b,bT d]
 by_cases g:(tok D L l).kind =3
 ·have a0:=zI D L l aG aG;have i:call D L (12*l.length+19) op (Ce.eY (tok D L l).text) (tok D L l).end' =Hc D L op (Ce.eY (tok D L l).text) (tok D L l).end' :=(uT D L _ _).2.2.2.2.2.1 _ _ _ aG vi;simp only[bv a,bv b,bv d,bT g,i]
 by_cases f:(tok D L l).kind =5/\(tok D L l).text =[40]
 ·have a0:=oV f.1;have i:expr D L (12*l.length+19) 1 (op+1) (tok D L l).end' =jr D L 1 (op+1) (tok D L l).end' :=(uT D L _ _).1 _ _ _ aG aG aG vi;simp only[bv a,bv b,bv d,bv g,bT f,i]<;>rfl
 ·simp only[bv a,bv b,bv d,bv g,bv f]
def yhY (op:Nat) (a l:Bs):Hc D L op a l=
 if op=100 then .er 7 (tok D L l).at'
 else if(tok D L (tok D L l).end').kind =5/\(tok D L (tok D L l).end').text =[41] then .ok (nod 10 a []) (tok D L (tok D L l).end').end'
 else yG D L (op+1) a [] (tok D L l).end' :=by
 have c:=KR D L l;have b:args D L (12*l.length+19) (op+1) a [] (tok D L l).end' =yG D L (op+1) a [] (tok D L l).end' :=(uT D L _ _).2.2.2.2.2.2 _ _ _ _ aG vi;conv=>lhs;unfold Hc
 rw[Dk,call,b]
def ylc (op:Nat) (b:Bs) (ks:List Tr) (l:Bs):yG D L op b ks l=(jr D L 1 op l).bind fun k a=>
 if(tok D L a).kind =5/\((tok D L a).text =[41]∨(tok D L a).text =[L]) then
  if(tok D L a).text =[41] then .ok (nod 10 b (ks++[k])) (tok D L a).end' else if ks.length+1=30 then .er 5 (tok D L a).at' else yG D L op b (ks++[k]) (tok D L a).end'
 else no D L a:=by
 have f:expr D L (12*l.length+19) 1 op l=jr D L 1 op l:=(uT D L _ _).1 _ _ _ aG aG aG vi;conv=>lhs;unfold yG
 rw[Dk,args,f]
 cases e:jr D L 1 op l with
 |ok k a=>
  have i:=Iw e
  simp only[Rs.bind]
  by_cases c:(tok D L a).kind =5/\((tok D L a).text =[41]∨(tok D L a).text =[L])
  ·have g:=oV c.1
   have d:args D L (12*l.length+19) op b (ks++[k]) (tok D L a).end' =yG D L op b (ks++[k]) (tok D L a).end' :=(uT D L _ _).2.2.2.2.2.2 _ _ _ _ aG vi
   rw[bT c,bT c,d]
  ·rw[bv c,bv c]
 |er x p=>rfl
def V0 (s:Bs):parse D L s=((if 1000<s.length then(none,4,0) else match jr D L 1 0 s with
 | .ok t l=>
   if(tok D L l).kind ≠0 then(none,13,(s.length-(tok D L l).at'.length :Nat))
   else if 500<num t then(none,5,0) else if 100<deep t then(none,7,0) else(some t,0,0)
 | .er e l=>(none,e,(s.length-l.length:Nat))):Option Tr × Int × Int):=rfl
end Fx

namespace Dc
def yrE (l:Bs) (x:Int) (h:right l x=true): ∃ (f g r:Bs) (E:Int),dD f=true/\f≠[]/\dD g=true/\((g=[]/\print false l x=f++r)∨print false l x=f++46::(g++r))/\
 ((r=[]/\E=0)∨ ∃ (c:UInt8) (u:Nat),(c=43∨c=45)/\u<=1000000/\r=101::c::Lib.decDigits u/\E=if c=45 then -(u:Int) else u)/\mk false (f++g) (E-g.length)=⟨false,l,x,0⟩:=by
 have hx:=sj h;have y:=xW h;have hd:=yu h;rw[print,bT h];by_cases a:l=[]
 ·subst a;rw[body,bT rfl];have o:x=0:=by simpa[right] using h
  refine⟨[48],[],[],0,by decide,by simp,by decide,.inl ⟨rfl,rfl⟩,.inl ⟨rfl,rfl⟩,?_⟩;rw[rm,EA bL bL,o]
 have z:0<l.length:=ti.2 a;rw[body,bv a];simp only[ye,pI,xi];split
 ·rename_i d
  refine⟨l++Lib.repeatL [48] (l.length+x-l.length).toNat,[],[],0,AH hd (DA _),by simp[a],by decide,.inl ⟨rfl,by simp⟩,.inl ⟨rfl,rfl⟩,?_⟩;have b:=ygP false l x (l.length+x-l.length).toNat h a;rw[show x-((l.length+x-l.length).toNat :Int)=0-((0:Nat):Int) by omega] at b;rw[rm];exact b
 ·rename_i v
  split
  ·rename_i d
   have i:l.take ((l.length:Int)+x).toNat ≠[]:=by exact yaH
   refine⟨l.take ((l.length:Int)+x).toNat,l.drop ((l.length:Int)+x).toNat,[],0,zt hd _,i,by rw[dD,na] at *;exact fun c d=>hd c (LK d),.inr cn,.inl ⟨rfl,rfl⟩,?_⟩;rw[ze,rS];have b:=SC false l x h a;rw[show(0:Int)-((l.length-((l.length:Int)+x).toNat :Nat):Int)=x by omega];exact b
  ·split
   ·rename_i d
    refine⟨[48],Lib.repeatL [48] (-((l.length:Int)+x)).toNat ++l,[],0,by decide,by simp,AH (DA _) hd,.inr cn,.inl ⟨rfl,rfl⟩,?_⟩;have b:=yhm false l x ((-((l.length:Int)+x)).toNat +1) h a;rw[j2,ybR,show(0:Int)-(((-((l.length:Int)+x)).toNat +l.length:Nat):Int)=x by omega];rw[Ay,Lib.repeatL_add,Lib.repeatL_one,tr] at b;exact b
   ·rename_i w s
    have t:(l.length:Int)+x < -5∨21<(l.length:Int)+x:=aG
    have jx: ∀ (c:UInt8) (u:Nat),(c=43∨c=45)->u<=1000000->(if c=45 then -(u:Int) else u)=l.length+x-1->
     ∃ (f g r:Bs) (E:Int),dD f=true/\f≠[]/\dD g=true/\((g=[]/\((if 1<l.length then l.take 1++([46]++l.drop 1) else l.take 1)++[101,c]++Lib.decDigits u)=f++r)∨((if 1<l.length then l.take 1++([46]++l.drop 1) else l.take 1)++[101,c]++Lib.decDigits u)=f++46::(g++r))/\
       ((r=[]/\E=0)∨ ∃ (c:UInt8) (u:Nat),(c=43∨c=45)/\u<=1000000/\r=101::c::Lib.decDigits u/\E=if c=45 then -(u:Int) else u)/\mk false (f++g) (E-g.length)=⟨false,l,x,0⟩:=by
     intro c u n j k
     have i:l.take 1≠[]:=by exact yaH
     by_cases m:1<l.length
     ·rw[bT m];refine⟨l.take 1,l.drop 1,101::c::Lib.decDigits u,_,zt hd _,i,by rw[dD,na] at *;exact fun c d=>hd c (LK d),.inr cn,.inr ⟨c,u,n,j,rfl,rfl⟩,?_⟩;rw[ze,k,rS,show(l.length:Int)+x-1-((l.length-1:Nat):Int)=x by omega];exact SC false l x h a
     ·rw[bv m];have q:l.take 1=l:=n0 aG;refine⟨l.take 1,[],101::c::Lib.decDigits u,_,zt hd _,i,by decide,.inl ⟨rfl,by simp⟩,.inr ⟨c,u,n,j,rfl,rfl⟩,?_⟩;rw[rm,k,q,show(l.length:Int)+x-1-((([]:Bs).length :Nat):Int)=x by rw[rp];omega];exact SC false l x h a
    (try simp only[]);by_cases hp:(l.length:Int)+x<1
    ·exact ykb
    ·exact yii
end Dc
namespace Fx
open Dc (Bs cu dD)
structure Lc (D L:UInt8):Prop where
 d:D=46∨D=44
 l:L=59∨L=44
 ne:D≠L
def fol (L c:UInt8):Bool:=c==61 || (c==60 || (c==62 || (c==38 || (c==43 || (c==45 || (c==42 || (c==47 || (c==94 || (c==37 || (c==41 || c==L))))))))))
def Fol (L:UInt8) (p:Bs):Prop:= ∀ c r,p=c::r->fol L c=true
def Fol.nil (L:UInt8):Fol L []:=fun c r h=>by simp at h
def Fol.cons {L c:UInt8} {r:Bs} (h:fol L c=true):Fol L (c::r):=fun d r' e=>by injection e with a b;rw[<-a];exact h
def ywa {L c:UInt8} (h:fol L c=true):c=61∨c=60∨c=62∨c=38∨c=43∨c=45∨c=42∨c=47∨c=94∨c=37∨c=41∨c=L:=by unfold fol at h;simpa using h
def K1 {D L c:UInt8} (hl:Lc D L) (h:fol L c=true):cu c=false/\c≠D/\c≠101/\c≠69/\c≠34/\j1 c=false/\c≠40/\c≠58/\c≠32/\c≠9/\c≠10/\c≠13/\c≠194:=by obtain⟨b,a,ne⟩:=hl;rcases b with rfl|rfl<;>rcases a with rfl|rfl<;>(first|exact absurd rfl ne|skip)<;>rcases ywa h with rfl|rfl|rfl|rfl|rfl|rfl|rfl|rfl|rfl|rfl|rfl|rfl<;>decide
def Cd {c:UInt8} (r:Bs) (h:c≠32/\c≠9/\c≠10/\c≠13/\c≠194):skip (c::r)=c::r:=by
 obtain⟨g,f,d,b,a⟩:=h;rw[skip]
 ·rw[bv (by simp[g,f,d,b])]
 ·intro s e _;exact a e
def Uk (q:UInt8->Bool) (f r:Bs) (d:f.all q=true) (a: ∀ c s,r=c::s->q c=false):(f++r).takeWhile q=f/\(f++r).dropWhile q=r:=by
 have b: ∀ c ∈ f,q c=true:=fun c e=>na.1 d c e;rw[yhU b,yc0 b]
 cases r with
 |nil=>simp
 |cons c s=>rw[J6 (by simp[a c s rfl]),yV (by simp[a c s rfl])];simp
def yec {D:UInt8} (f r:Bs) (a: ∀ c ∈ f,c≠46):dot D (f++r)=f++dot D r:=by
 induction f with
 |nil=>rfl
 |cons c f b=>simp only[lB,dot];rw[bv (a c cn),b (fun d hd=>a d (by simp[hd]))]
def yfy {f:Bs} (a:dD f=true): ∀ c ∈ f,c≠46:=fun c b e=>by have:=na.1 a c b;subst e;exact absurd this bL
def yqM {D L:UInt8} (hl:Lc D L) {r p:Bs} {E:Int} (g:(r=[]/\E=0)∨ ∃ (c:UInt8) (u:Nat),(c=43∨c=45)/\u<=1000000/\r=101::c::Lib.decDigits u/\E=if c=45 then -(u:Int) else u) (b:Fol L p):expo (r++p)=(E,p):=by
 rcases g with ⟨rfl,rfl⟩|⟨c,u,h,l,rfl,rfl⟩
 ·rw[xi];unfold expo
  cases p with
  |nil=>rfl
  |cons c q=>
   obtain⟨_,_,a,i,_⟩:=K1 hl (b c q rfl)
   simp only[a,i,or_self,pI]
 ·obtain⟨k,j,a⟩:=Dc.RN u;obtain⟨f,d⟩:=Uk cu (Lib.decDigits u) p k (fun c s e=>(K1 hl (b c s e)).1);simp only[lB];unfold expo;simp only[true_or,lG,h,f,d,a,pI];have:upTo (Lib.decDigits u)=u:=by unfold upTo;rw[j];omega
  rw[this]
def yl8 {D L:UInt8} (hl:Lc D L) {x:Nat} (hx:x<9218868437227405312) {p:Bs} (w:Fol L p):
 ∃ (c:UInt8) (q s:Bs) (e:Int),dot D (Fl.oQ x)=c::q/\cu c=true/\tok D L (c::(q++p))=⟨1,c::(q++p),p,s,e⟩/\numb s e=some x:=by
 have y:Fl.kind x<3:=by
  unfold Fl.kind Fl.expo;have:x / 4503599627370496 % 2048<2047:=aG;repeat' split
  all_goals omega
 have C:Fl.qk x=[]:=by unfold Fl.qk;rw[bv aG,bv aG,bv aG]
 obtain⟨S,I,H,_,t,_⟩:=Fl.ya1 x y;have G:Fl.neg x=false:=by unfold Fl.neg;simp;omega
 have F:x % 9223372036854775808=x:=o0 aG;have hv:Fl.oQ x=Dc.print false (Fl.wdec x).l (Fl.wdec x).x :=by rw[Fl.oQ,bv (by rw[C];simp),I,G]
 rw[F] at t;obtain⟨f,g,r,E,b,M,hg,a,l,O⟩:=Dc.yrE _ _ H
 have Q: ∀ c ∈ r,c≠46:=by
  rcases l with ⟨rfl,_⟩|⟨c,u,z,J,rfl,_⟩
  ·simp
  ·intro d hd e;simp only[sC] at hd;rcases hd with rfl|rfl|hd
   ·exact absurd e bL
   ·rcases z with rfl|rfl<;>exact absurd e bL
   ·exact yfy (Dc.RN u).1 d hd e
 have R:dot D r=r:=by have:=yec (D:=D) r [] Q;simpa[dot] using this
 have A:=yqM hl l w
 have n: ∀ c s,r++p=c::s->cu c=false/\c≠D:=by
  intro c s e;rcases l with ⟨rfl,_⟩|⟨T,u,z,J,rfl,_⟩
  ·have:=K1 hl (w c s e);exact⟨this.1,this.2.1⟩
  ·simp only[lB] at e;injection e with m N;rw[<-m];rcases hl.d with h|h<;>rw[h]<;>decide
 cases f with
 |nil=>exact absurd rfl M
 |cons c f=>
  have i:cu c=true:=by have:=na.1 b c cn;exact this
  have P:c≠32/\c≠9/\c≠10/\c≠13/\c≠194:=by refine⟨?_,?_,?_,?_,?_⟩<;>(intro e;subst e;exact absurd i bL)
  have v:numb ((c::f)++g) (E-g.length)=some x:=by unfold numb;rw[O];simp only[tq,ycG,pI,t,y,lG]
  have o: ∀ q:Bs,ou D (c::(q++p))=⟨1,c::(q++p),p,(c::f)++g,E-g.length⟩->tok D L (c::(q++p))=⟨1,c::(q++p),p,(c::f)++g,E-g.length⟩:=by intro q hq;unfold tok;rw[Cd _ P];unfold tokS;simp only[i,Bool.true_or,lG];exact hq
  rcases a with ⟨rfl,a⟩|a
  ·refine⟨c,f++r,(c::f)++[],E-([]:Bs).length,?_,i,o (f++r) ?_,v⟩
   ·rw[hv,a,yec _ _ (yfy b),R];rfl
   ·obtain⟨k,j⟩:=Uk cu (c::f) (r++p) b (fun c s e=>(n c s e).1)
    have hcut:cutD D (r++p)=none:=by
     cases e:r++p with
     |nil=>rfl
     |cons d s=>simp only[cutD];rw[bv (n d s e).2]
    rw[show c::(f++r++p)=(c::f)++(r++p) by simp]
    unfold ou mant
    simp only[k,j,hcut,A,rm,rp]
  ·refine⟨c,f++D::(g++r),(c::f)++g,E-g.length,?_,i,o (f++D::(g++r)) ?_,v⟩
   ·rw[hv,a,yec _ _ (yfy b)]
    simp[dot]
   ·have K:cu D=false:=yay
    obtain⟨k,j⟩:=Uk cu (c::f) (D::(g++(r++p))) b (fun c s e=>by injection e with m N;rw[<-m];exact K)
    obtain⟨B,t4⟩:=Uk cu g (r++p) hg (fun c s e=>(n c s e).1)
    rw[show c::(f++D::(g++r)++p)=(c::f)++D::(g++(r++p)) by simp]
    unfold ou mant
    simp only[k,j,cutD,lG,B,t4,A]
end Fx

namespace Fx
open Dc (Bs cu dD)
def qY (a b:UInt8) (s p:Bs):Lib.hasPrefix (a::s) (b::p)=((b==a)&&Lib.hasPrefix s p):=by unfold Lib.hasPrefix;rfl
def yz (s:Bs):Lib.hasPrefix s []=true:=by cases s<;>rfl
def yrF {c:UInt8} (r:Bs) (h:c≠35):pq (c::r)=none:=by
 have a:(35==c)=false:=by simpa using fun e=>h e.symm
 simp[pq,jq,qY,a]
def ya7 {D c:UInt8} (r:Bs) (h:c≠D):oT D (c::r)=false:=by unfold oT;simp[cutD,h]
def one (L c:UInt8):Bool:=c==38 || (c==43 || (c==45 || (c==42 || (c==47 || (c==94 || (c==37 || (c==40 || (c==41 || (c==58 || (c==61 || c==L))))))))))
def ydI {L c:UInt8} (h:one L c=true):c=38∨c=43∨c=45∨c=42∨c=47∨c=94∨c=37∨c=40∨c=41∨c=58∨c=61∨c=L:=by unfold one at h;simpa using h
def yje {D L c:UInt8} {r g:Bs} (f:cu c=false) (e:c≠D) (d:c≠34) (b:(gI c || c==36)=false) (a:c≠35) (hg:ss L (c::r)=some g):tokS D L (c::r)=⟨5,c::r,(c::r).drop g.length,g,0⟩:=by unfold tokS;simp only[f,ya7 r e,yaP,ye,pI,d,b,yrF r a,hg]
def qz {D L c:UInt8} (hl:Lc D L) (h:one L c=true) (r:Bs):tok D L (c::r)=⟨5,c::r,r,[c],0⟩:=by
 obtain⟨e,a,ne⟩:=hl
 have b:c≠32/\c≠9/\c≠10/\c≠13/\c≠194:=by rcases a with rfl|rfl<;>rcases ydI h with rfl|rfl|rfl|rfl|rfl|rfl|rfl|rfl|rfl|rfl|rfl|rfl<;>decide
 have d:cu c=false/\c≠D/\c≠34/\(gI c || c==36)=false/\c≠35:=by rcases e with rfl|rfl<;>rcases a with rfl|rfl<;>(first|exact absurd rfl ne|skip)<;>rcases ydI h with rfl|rfl|rfl|rfl|rfl|rfl|rfl|rfl|rfl|rfl|rfl|rfl<;>decide
 have hg:ss L (c::r)=some [c]:=by rcases a with rfl|rfl<;>rcases ydI h with rfl|rfl|rfl|rfl|rfl|rfl|rfl|rfl|rfl|rfl|rfl|rfl<;>simp[ss,signs,qY,yz]
 obtain⟨c1,c2,c3,c4,c5⟩:=d;unfold tok;rw[Cd r b,yje c1 c2 c3 c4 c5 hg];rfl
def beg (c:UInt8):Bool:=cu c || (c==34 || (xj c || (c==36 || (c==35 || (c==45 || (c==43 || c==40))))))
def Beg (s:Bs):Prop:= ∃ c r,s=c::r/\beg c=true
def Beg.app {s:Bs} (h:Beg s) (p:Bs):Beg (s++p):=by obtain⟨c,r,rfl,a⟩:=h;exact⟨c,r++p,rfl,a⟩
def yls {c:UInt8} (h:beg c=true):c≠61/\c≠62/\c≠41/\c≠44/\c≠59:=by refine⟨?_,?_,?_,?_,?_⟩<;>(intro e;subst e;exact absurd h bL)
def yvd {D L:UInt8} (hl:Lc D L) {g q:Bs} (hg:0<eT g) (hq:Beg q):tok D L (g++q)=⟨5,g++q,q,g,0⟩:=by
 obtain⟨c,r,rfl,k⟩:=hq;obtain⟨i,f,_⟩:=yls k;have b:(61==c)=false:=by simpa using fun e=>i e.symm
 have a:(62==c)=false:=by simpa using fun e=>f e.symm
 have l:g=[61]∨g=[60,62]∨g=[60]∨g=[60,61]∨g=[62]∨g=[62,61]∨g=[38]∨g=[43]∨g=[45]∨g=[42]∨g=[47]∨g=[94]:=by
  unfold eT at hg;split at hg
  ·rename_i h;rcases h with h|h|h|h|h|h<;>simp[h]
  ·split at hg
   ·rename_i h;simp[h]
   ·split at hg
    ·rename_i h;rcases h with h|h<;>simp[h]
    ·split at hg
     ·rename_i h;rcases h with h|h<;>simp[h]
     ·split at hg
      ·rename_i h;simp[h]
      ·omega
 have j: ∀ (d:UInt8) (t:Bs),(d=60∨d=62)->skip (d::t)=d::t:=fun d t h=>Cd t (by rcases h with rfl|rfl<;>decide)
 have m: ∀ d:UInt8,(d=60∨d=62)->cu d=false/\d≠D/\d≠34/\(gI d || d==36)=false/\d≠35:=by intro d h;rcases hl.d with e|e<;>rw[e]<;>rcases h with rfl|rfl<;>decide
 have two: ∀ (d:UInt8) (t w:Bs),(d=60∨d=62)->ss L (d::t)=some w->tok D L (d::t)=⟨5,d::t,(d::t).drop w.length,w,0⟩:=by intro d t w h e;obtain⟨c1,c2,c3,c4,c5⟩:=m d h;unfold tok;rw[j d t h,yje c1 c2 c3 c4 c5 e]
 rcases l with rfl|rfl|rfl|rfl|rfl|rfl|rfl|rfl|rfl|rfl|rfl|rfl
 ·exact qz hl tn _
 ·exact two 60 (62::c::r) [60,62] (.inl rfl) (by simp[ss,signs,qY,yz])
 ·exact two 60 (c::r) [60] (.inl rfl) (by simp[ss,signs,qY,yz,b,a])
 ·exact two 60 (61::c::r) [60,61] (.inl rfl) (by simp[ss,signs,qY,yz])
 ·exact two 62 (c::r) [62] (.inr rfl) (by simp[ss,signs,qY,yz,b,a])
 ·exact two 62 (61::c::r) [62,61] (.inr rfl) (by simp[ss,signs,qY,yz])
 ·exact qz hl tn _
 ·exact qz hl tn _
 ·exact qz hl tn _
 ·exact qz hl tn _
 ·exact qz hl tn _
 ·exact qz hl tn _
def yw3 (t p:Bs) (b: ∀ r,p≠34::r):quot (dbl t++34::p)=some (t,p):=by
 induction t with
 |nil=>
  simp only[dbl,xi]
  rw[quot]
  ·simp
  ·intro s _ e;exact b s e
 |cons c t a=>
  by_cases h:c=34
  ·subst h;simp only[dbl,lG,lB];rw[quot,a];rfl
  ·simp only[dbl,bv h,lB]
   rw[quot,bv h,a]
   ·rfl
   ·intro s e _;exact h e
def ymy {D L:UInt8} (hl:Lc D L) (t p:Bs) (b:Fol L p):tok D L (34::(dbl t++34::p))=⟨2,34::(dbl t++34::p),p,t,0⟩:=by have a:(34:UInt8)≠D:=yay;unfold tok;rw[Cd _ bL];unfold tokS;simp only[show cu 34=false by decide,ya7 _ a,yaP,ye,pI,lG,yw3 t p (fun r e=>(K1 hl (b 34 r e)).2.2.2.2.1 rfl)]
def Rl {D L:UInt8} (hl:Lc D L) {c:UInt8} {w p:Bs} (b:(gI c || c==36)=true) (j:w.all j1=true) (m: ∀ d r,p=d::r->j1 d=false):tok D L ((c::w)++p)=⟨3,(c::w)++p,p,c::w,0⟩:=by
 have s:j1 c=true:=by unfold j1;rcases zL.1 b with h|h<;>simp[h]
 have a: ∀ k:UInt8,(gI k || k==36)=false->c≠k:=fun k n e=>by rw[e,n] at b;exact absurd b bL
 have q:cu c=false:=by
  cases h:cu c with
  |false=>rfl
  |true=>
   exfalso
   rcases zL.1 b with f|f
   ·simp only[gI,xj,cu,S6,fs,kF] at h f;omega
   ·have:=eq_of_beq f;subst this;exact absurd h bL
 have f:c≠D:=by rcases hl.d with h|h<;>rw[h]<;>exact a _ bL
 have o:c≠34:=a _ bL;have l:c≠32/\c≠9/\c≠10/\c≠13/\c≠194:=⟨a _ bL,a _ bL,a _ bL,a _ bL,a _ bL⟩;obtain⟨i,g⟩:=Uk j1 (c::w) p (by rw[qb,s,j];rfl) m;rw[lB] at i g ⊢;unfold tok;rw[Cd _ l];unfold tokS;simp only[q,ya7 _ f,yaP,ye,pI,o,b,lG,i,g]
def yuU {D L:UInt8} (hl:Lc D L) (n:Nat) (i:1<=n) (g:n<=8) (p:Bs):tok D L (jq (n:Nat)++p)=⟨4,jq (n:Nat)++p,p,[],(n:Nat)⟩:=by
 have f:(35:UInt8)≠D:=yay
 have c: ∀ (r:Bs) (n:Nat),pq (35::r)=some n->tok D L (35::r)=⟨4,35::r,(35::r).drop (jq (n:Nat)).length,[],n⟩:=by intro r n hn;unfold tok;rw[Cd _ bL];unfold tokS;simp only[show cu 35=false by decide,ya7 _ f,yaP,ye,pI,show((35:UInt8)=34)=False by decide,show(gI 35 || (35:UInt8)==36)=false by decide,hn]
 have a: ∀ (t:Bs) (n:Nat),jq (n:Nat)=35::t->pq (35::(t++p))=some n->tok D L (jq (n:Nat)++p)=⟨4,jq (n:Nat)++p,p,[],(n:Nat)⟩:=by
  intro t n e hn;have b:=c _ n hn;rw[e] at b
  have hd:(35::(t++p)).drop (35::t:Bs).length =p:=by rw[show(35::(t++p))=(35::t)++p from rfl,List.drop_left]
  rw[hd] at b;rw[e];exact b
 have d:n=1∨n=2∨n=3∨n=4∨n=5∨n=6∨n=7∨n=8:=aG;rcases d with rfl|rfl|rfl|rfl|rfl|rfl|rfl|rfl
 ·exact a [78,85,76,76,33] 1 bL Ek
 ·exact a [68,73,86,47,48,33] 2 bL Ek
 ·exact a [86,65,76,85,69,33] 3 bL Ek
 ·exact a [82,69,70,33] 4 bL Ek
 ·exact a [78,65,77,69,63] 5 bL Ek
 ·exact a [78,85,77,33] 6 bL Ek
 ·exact a [78,47,65] 7 bL Ek
 ·exact a [67,89,67,76,69,33] 8 bL Ek
end Fx

namespace Fx
open Dc (Bs cu dD)
def yhn (D L:UInt8) (ks:List Tr):GF D L ks=ks.map (text D L):=by
 induction ks with
 |nil=>rfl
 |cons k ks a=>rw[GF,a];rfl
def yv7 {k:Tr} {ks:List Tr} (h:k ∈ ks):num k<=nums ks:=by
 induction ks with
 |nil=>cases h
 |cons a ks b=>
  rw[nums]
  rcases sC.1 h with rfl|h
  ·omega
  ·have:=b h;omega
def yok {k:Tr} {ks:List Tr} (h:k ∈ ks):deep k<=kv ks:=by
 induction ks with
 |nil=>cases h
 |cons a ks b=>
  rw[kv]
  rcases sC.1 h with rfl|h
  ·omega
  ·have:=b h;omega
def ymb {k:Tr} {ks:List Tr} (h:k ∈ ks) (b:jz ks=true):hG k=true:=by
 induction ks with
 |nil=>cases h
 |cons a ks c=>
  rw[jz,fs] at b
  rcases sC.1 h with rfl|h
  ·exact b.1
  ·exact c h b.2
def yih (t:Tr):1<=deep t:=by cases t;rw[deep];omega
section
variable {D L:UInt8}
def Stp (D L:UInt8) (n:Nat) (p:Bs):Prop:=(tok D L p).kind =5->eT (tok D L p).text <n/\(tok D L p).text ≠[37]
def Stp.mono {n m:Nat} {p:Bs} (h:Stp D L n p) (hm:n<=m):Stp D L m p:=fun e=>⟨eR (h e).1 hm,(h e).2⟩
def Stp.nil (n:Nat):Stp D L n []:=fun e=>absurd e (by simp[tok,skip,tokS])
def Stp.shut (hl:Lc D L) {n:Nat} (hn:1<=n) (p:Bs):Stp D L n (41::p):=fun _=>by rw[qz hl tn p];exact⟨eR (show eT [41]<1 by decide) hn,by simp⟩
def Stp.list (hl:Lc D L) {n:Nat} (hn:1<=n) (p:Bs):Stp D L n (L::p):=fun _=>by
 rw[qz hl tn p];rcases hl.l with h|h<;>rw[h]
 ·exact⟨eR (show eT [59]<1 by decide) hn,by simp⟩
 ·exact⟨eR (show eT [44]<1 by decide) hn,by simp⟩
def Pr (D L:UInt8) (s:Bs) (k:Tr) (o:Nat):Prop:= ∀ op p,op+o<=100->Fol L p->vz D L op (s++p)= .ok k p
def Po (D L:UInt8) (s:Bs) (k:Tr) (o:Nat):Prop:= ∀ op p,op+o<=100->Fol L p->(vz D L op (s++p)).bind (vj D L)=vj D L k p
def Un (D L:UInt8) (s:Bs) (k:Tr) (o:Nat):Prop:= ∀ op p,op+o<=100->Fol L p->Stp D L 6 p->yA D L op (s++p)= .ok k p
def Ex (D L:UInt8) (n:Nat) (s:Bs) (k:Tr) (o:Nat):Prop:= ∀ op p,op+o<=100->Fol L p->Stp D L (n+1) p->jr D L n op (s++p)=vF D L n op k p
structure Good (D L:UInt8) (r:Nat) (s:Bs) (k:Tr) (o:Nat):Prop where
 pr:8<=r->Pr D L s k o
 po:7<=r->Po D L s k o
 un:6<=r->Un D L s k o
 ex: ∀ n,1<=n->n<=5->n<=r->Ex D L n s k o
def NoSg (s:Bs):Prop:= ∀ c r,s=c::r->c≠43/\c≠45
def Pr.po {s:Bs} {k:Tr} {o:Nat} (h:Pr D L s k o):Po D L s k o:=fun op p b a=>by rw[h op p b a];rfl
def yrl {e:Tr} {p:Bs} {n:Nat} (h:Stp D L n p):vj D L e p= .ok e p:=by rw[XF,bv];exact fun a=>(h a.1).2 a.2
def yfm {n op:Nat} {e:Tr} {p:Bs} (c:1<=n) (b:n<=5) (h:Stp D L n p):vF D L n op e p= .ok e p:=by rw[XV op e p c b,bv];exact fun a=>by have:=(h a.1).1;omega
def ydn {c:UInt8} {r:Bs} (e:skip (c::r)=c::r) (h:(tok D L (c::r)).kind =5):ss L (c::r)=some (tok D L (c::r)).text :=by
 unfold tok at h ⊢;rw[e] at h ⊢;unfold tokS at h ⊢;simp only at h ⊢;split at h
 ·unfold ou at h;simp at h
 ·split at h
  ·split at h<;>simp at h
  ·split at h
   ·simp at h
   ·split at h
    ·simp at h
    ·split at h
     ·rename_i d b a _ f _ g hg
      rw[bv d,bv b,bv a];simp only[f,hg]
     ·simp at h
def yiy {g:Bs} (h:eT g=3):g=[43]∨g=[45]:=by
 unfold eT at h;split at h
 ·omega
 ·split at h
  ·omega
  ·split at h
   ·assumption
   ·split at h
    ·omega
    ·split at h<;>omega
def ygt {c:UInt8} (h:beg c=true):c≠32/\c≠9/\c≠10/\c≠13/\c≠194:=by refine⟨?_,?_,?_,?_,?_⟩<;>(intro e;subst e;exact absurd h bL)
def yqS {s:Bs} (hb:Beg s) (hn:NoSg s) (p:Bs): ¬ ((tok D L (s++p)).kind =5/\eT (tok D L (s++p)).text =3):=by
 obtain⟨c,r,rfl,f⟩:=hb;obtain⟨b,a⟩:=hn c r rfl;rintro ⟨g,i⟩;have d:=Cd (r++p) (ygt f);have h:=(Om (ydn (c:=c) (r:=r++p) d g)).2.2;rcases yiy i with e|e
 ·rw[lB] at e;rw[e,qY] at h;simp at h;exact b h.1.symm
 ·rw[lB] at e;rw[e,qY] at h;simp at h;exact a h.1.symm
def Po.un {s:Bs} {k:Tr} {o:Nat} (h:Po D L s k o) (hb:Beg s) (hn:NoSg s):Un D L s k o:=fun op p c b a=>by rw[J5,bv (yqS hb hn p),h op p c b,yrl a]
def Un.ex {s:Bs} {k:Tr} {o:Nat} (h:Un D L s k o):Ex D L 5 s k o:=fun op p c b a=>by rw[LD op _ aG aG,OJ,h op p c b a];rfl
def Ex.down {n:Nat} {s:Bs} {k:Tr} {o:Nat} (h:Ex D L (n+1) s k o) (c:1<=n) (b:n+1<=5):Ex D L n s k o:=fun op p e d a=>by rw[LD op _ c aG,h op p e d (a.mono aG),yfm aG b a];rfl
def Ex.le {n m:Nat} {s:Bs} {k:Tr} {o:Nat} (h:Ex D L m s k o) (c:1<=n) (hn:n<=m) (b:m<=5):Ex D L n s k o:=by
 obtain⟨d,rfl⟩:=Nat.exists_eq_add_of_le hn;clear hn
 induction d with
 |zero=>exact h
 |succ d a=>exact a (Ex.down h aG aG) aG
def Good.yvG {n:Nat} {s:Bs} {k:Tr} {o:Nat} (h:Ex D L n s k o) (a:n<=5):Good D L n s k o:=
 ⟨fun e=>by omega,fun e=>by omega,fun e=>by omega,fun m b _ hm=>h.le b hm a⟩
def Good.ym3 {s:Bs} {k:Tr} {o:Nat} (h:Un D L s k o):Good D L 6 s k o:=
 ⟨fun e=>by omega,fun e=>by omega,fun _=>h,fun m b a _=>h.ex.le b a aG⟩
def Good.ywY {s:Bs} {k:Tr} {o:Nat} (h:Po D L s k o) (hb:Beg s) (hn:NoSg s):Good D L 7 s k o:=
 ⟨fun e=>by omega,fun _=>h,fun _=>h.un hb hn,fun m b a _=>(h.un hb hn).ex.le b a aG⟩
def Good.yf7 {s:Bs} {k:Tr} {o:Nat} (h:Pr D L s k o) (hb:Beg s) (hn:NoSg s):Good D L 8 s k o:=
 ⟨fun _=>h,fun _=>h.po,fun _=>h.po.un hb hn,fun m b a _=>(h.po.un hb hn).ex.le b a aG⟩
def Good.less {r r':Nat} {s:Bs} {k:Tr} {o o':Nat} (h:Good D L r s k o) (f:r'<=r) (g:o<=o'):Good D L r' s k o':=
 ⟨fun e op p a b=>h.pr aG op p aG b,fun e op p a b=>h.po aG op p aG b,fun e op p a b=>h.un aG op p aG b,fun n a b c op p d e=>h.ex n a b aG op p aG e⟩
def Good.shut (hl:Lc D L) {r:Nat} {s:Bs} {k:Tr} {o:Nat} (h:Good D L r s k o) (a:1<=r):Pr D L (40::(s++[41])) k (o+1):=fun op p f e=>by have d:40::(s++[41])++p=40::(s++41::p):=cn;have b:=qz hl (c:=40) tn (s++41::p);rw[d,sS,b];simp only[show(5:Nat)≠1 by decide,show(5:Nat)≠2 by decide,show(5:Nat)≠4 by decide,show(5:Nat)≠3 by decide,pI,xM,lG,show op≠100 by omega];rw[h.ex 1 aG aG a (op+1) (41::p) aG (Fol.cons (by simp[fol])) (Stp.shut hl aG p),yfm aG aG (Stp.shut hl aG p)];simp only[Rs.bind,qz hl (c:=41) tn p,xM,lG]
def ybM (hl:Lc D L) {m:Nat} {s:Bs} {k:Tr} {o:Nat} (h:Good D L (rank k) s k o) (a:1<=rank k) (hm:m<=7) (hb:Beg s) (hn:7<=rank k->NoSg s):
 Good D L m (par m k s) k (if rank k<m then o+1 else o)/\Beg (par m k s)/\(7<=m->NoSg (par m k s)):=by
 unfold par;split
 ·refine⟨(Good.yf7 (h.shut hl a) ⟨40,_,rfl,by decide⟩ (fun c r e=>by injection e with e _;subst e;decide)).less aG cm,⟨40,_,rfl,by decide⟩,fun _ c r e=>by injection e with e _;subst e;decide⟩
 ·rename_i b
  exact⟨h.less aG cm,hb,fun d=>hn aG⟩
def Good.stop {n:Nat} {s:Bs} {k:Tr} {o:Nat} (h:Good D L n s k o) (e:1<=n) (f:n<=6) (op:Nat) (p:Bs) (b:op+o<=100) (c:Fol L p) (a:Stp D L n p):jr D L n op (s++p)= .ok k p:=by
 by_cases d:n<=5
 ·rw[h.ex n e d cm op p b c (a.mono aG),yfm e d a]
 ·have:n=6:=aG;subst this;rw[OJ];exact h.un cm op p b c a
end
end Fx

namespace Fx
open Dc (Bs cu dD)
section
variable {D L:UInt8}
def ywG (hl:Lc D L) {p:Bs} (h:Fol L p): ¬ ((tok D L p).kind =5/\(tok D L p).text =[58]):=by
 rintro ⟨d,e⟩
 cases p with
 |nil=>simp[tok,skip,tokS] at d
 |cons c r=>
  have a:=K1 hl (h c r rfl)
  have f:=Cd r ⟨a.2.2.2.2.2.2.2.2.1,a.2.2.2.2.2.2.2.2.2.1,a.2.2.2.2.2.2.2.2.2.2.1,a.2.2.2.2.2.2.2.2.2.2.2.1,a.2.2.2.2.2.2.2.2.2.2.2.2⟩
  have b:=(Om (ydn f d)).2.2
  rw[e,qY] at b
  simp at b
  exact a.2.2.2.2.2.2.2.1 b.1.symm
def yeI (hl:Lc D L) {p:Bs} (h:Fol L p):Lib.hasPrefix p [40]=false:=by
 cases p with
 |nil=>rfl
 |cons c r=>
  have a:=(K1 hl (h c r rfl)).2.2.2.2.2.2.1
  rw[qY]
  have:((40:UInt8)==c)=false:=by simpa using fun e=>a e.symm
  rw[this];rfl
def ybd (hl:Lc D L) {p:Bs} (h:Fol L p): ∀ d r,p=d::r->j1 d=false:=fun d r e=>(K1 hl (h d r e)).2.2.2.2.2.1
def yet {a:Ce.Rf} (h:Ce.right a=true): ∃ c w,Ce.print a=c::w/\(gI c || c==36)=true/\w.all j1=true/\beg c=true/\c≠43/\c≠45/\Ce.parse (Ce.print a)=(a,0)/\Ce.eY (Ce.print a)≠qZ/\Ce.eY (Ce.print a)≠so:=by
 have b:=Ce.yfh a h;have f:Ce.eY (Ce.print a)=Ce.print a:=(Ce.ykO _ _ b).2.symm
 have l:Ce.eY (Ce.print a)≠qZ:=fun e=>by rw[f] at e;rw[e] at b;exact absurd (show(Ce.parse qZ).2 =0 from dZ Prod.snd b) bL
 have k:Ce.eY (Ce.print a)≠so:=fun e=>by rw[f] at e;rw[e] at b;exact absurd (show(Ce.parse so).2 =0 from dZ Prod.snd b) bL
 obtain⟨C,b2,B,A⟩:=(Ce.Tv a).1 h;have o:a.col.toNat<64:=aG;obtain⟨r,z,q,_,_⟩:=Ce.ydf ⟨a.col.toNat,o⟩;simp only at r q
 have s: ∀ n:Fin 64,∃ c w,Ce.rc n.1=c::w/\xj c=true/\w.all j1=true:=by
  have: ∀ n:Fin 64,(match Ce.rc n.1 with | []=>false|c::w=>xj c&&w.all j1)=true:=bL;intro n;have:=this n
  cases e:Ce.rc n.1 with
  |nil=>rw[e] at this;simp at this
  |cons c w=>rw[e] at this;simp only[fs] at this;exact⟨c,w,rfl,this.1,this.2⟩
 obtain⟨c0,w0,m,c1,i⟩:=s ⟨a.col.toNat,o⟩;simp only at m;obtain⟨t,_,_⟩:=Dc.RN (a.row+1).toNat
 have y:(Lib.decDigits (a.row+1).toNat).all j1=true:=na.2 fun c f=>by have:=na.1 t c f;unfold j1;rw[this];simp
 have u:(Ce.mark a.ar).all j1=true:=by cases a.ar<;>decide
 have g:(Ce.mark a.ar++Lib.decDigits (a.row+1).toNat).all j1=true:=by rw[Eu,u,y];rfl
 have j:Ce.print a=Ce.mark a.ac++(c0::(w0++(Ce.mark a.ar++Lib.decDigits (a.row+1).toNat))):=by unfold Ce.print;rw[bT h,m];rfl
 have v:j1 c0=true:=by unfold j1 gI;rw[c1];rfl
 have x:(c0::(w0++(Ce.mark a.ar++Lib.decDigits (a.row+1).toNat))).all j1=true:=by rw[qb,v,Eu,i,g];rfl
 cases d:a.ac with
 |true=>
  refine⟨36,c0::(w0++(Ce.mark a.ar++Lib.decDigits (a.row+1).toNat)),?_,by decide,x,by decide,by decide,by decide,b,l,k⟩
  rw[j,d];rfl
 |false=>
  refine⟨c0,w0++(Ce.mark a.ar++Lib.decDigits (a.row+1).toNat),?_,by unfold gI;rw[c1];rfl,?_,by unfold beg;rw[c1];simp,?_,?_,b,l,k⟩
  ·rw[j,d];rfl
  ·rw[Eu,i,g];rfl
  ·intro e;subst e;exact absurd c1 bL
  ·intro e;subst e;exact absurd c1 bL
def opn (t:Tr):Nat:=if rank t<=5 then deep t-1 else deep t
def yap {t:Tr} {m:Nat} (hm:m<=6):(if rank t<m then opn t+1 else opn t)<=deep t:=by
 have:=yih t;unfold opn;repeat' split
 all_goals omega
def yrn {t:Tr}:(if rank t<7 then opn t+1 else opn t)<=deep t+1:=by
 have:=yih t;unfold opn;repeat' split
 all_goals omega
structure Fine (D L:UInt8) (t:Tr):Prop where
 good:Good D L (rank t) (text D L t) t (opn t)
 beg:Beg (text D L t)
 sg:7<=rank t->NoSg (text D L t)
 rk:1<=rank t
def ytf {s:Bs} (h:oF s=true): ∃ c w,s=c::w/\xj c=true/\w.all j1=true/\Ce.eY s=s:=by
 cases s with
 |nil=>simp[oF] at h
 |cons c w=>
  unfold oF at h
  simp only[fs,qb] at h
  obtain⟨_,⟨j,i⟩,g⟩:=h
  have a: ∀ d:UInt8,ps d=true->(if 97<=d.toNat/\d.toNat<=122 then d-32 else d)=d:=by
   intro d hd;rw[bv];rintro ⟨f,k⟩;unfold ps xj cu at hd;simp only[S6,fs,kF,sb] at hd;rcases hd with hd|hd|rfl|rfl
   ·omega
   ·omega
   ·revert f;decide
   ·revert f;decide
  have b: ∀ d ∈ w,ps d=true:=fun d hd=>na.1 i d hd
  refine⟨c,w,rfl,g,na.2 fun d hd=>?_,?_⟩
  ·have:=b d hd
   unfold ps at this
   unfold j1 gI
   rcases zL.1 this with e|e
   ·simp[e]
   ·rcases zL.1 e with e|e
    ·simp[e]
    ·rcases zL.1 e with e|e<;>simp[e]
  ·unfold Ce.eY
   rw[ya,a c j]
   congr 1
   conv=>rhs;rw[<-List.map_id w]
   exact List.map_congr_left fun d hd=>a d (b d hd)
def yoa (hl:Lc D L) (b:Bs) (op:Nat) (p:Bs) (ks:List Tr): ∀ done:List Tr,ks≠[]->done.length+ks.length<=30->(∀ k ∈ ks,Fine D L k/\op+opn k<=100)->
 yG D L op b done (mt L (ks.map (text D L))++41::p)= .ok (nod 10 b (done++ks)) p:=by
 induction ks with
 |nil=>intro _ h;exact absurd rfl h
 |cons k ks g=>
  intro done _ j f
  obtain⟨a,d⟩:=f k cn
  rw[ylc]
  cases ks with
  |nil=>
   simp only[ya,M8,mt]
   rw[(a.good.less (r':=1) a.rk cm).stop aG aG op (41::p) d (Fol.cons (by simp[fol])) (Stp.shut hl aG p)]
   simp only[Rs.bind,qz hl (c:=41) tn p,true_or,xM,lG]
  |cons m ks=>
   simp only[ya,mt,tr,lB]
   have e:=(a.good.less (r':=1) a.rk cm).stop aG aG op (L::(mt L (text D L m::ks.map (text D L))++41::p)) d (Fol.cons (by simp[fol])) (Stp.list hl aG _)
   rw[e]
   have i:([L]:Bs)≠[41]:=by rcases hl.l with h|h<;>rw[h]<;>decide
   simp only[gE] at j
   simp only[Rs.bind,qz hl (c:=L) tn _,i,or_true,xM,lG,pI]
   rw[bv aG]
   have:=g (done++[k]) cn (by simp only[j2,gE,rp];omega) (fun x hx=>f x (by simp[hx]))
   rw[ya] at this
   rw[this,tr];rfl
def yr2 {ks:List Tr} (h:ks≠[]) (a: ∀ k ∈ ks,Fine D L k):Beg (mt L (ks.map (text D L))):=by
 cases ks with
 |nil=>exact absurd rfl h
 |cons k ks=>
  have:=(a k cn).beg
  cases ks with
  |nil=>exact this
  |cons m ks=>exact this.app _
end
end Fx

namespace Fx
open Dc (Bs cu dD)
section
variable {D L:UInt8}
def yfS {t:Tr} (h:6<=rank t):opn t=deep t:=by unfold opn;rw[bv aG]
def Fine.leaf {t:Tr} (g:rank t=8) (h: ∀ op p,Fol L p->vz D L op (text D L t++p)= .ok t p) (hb: ∃ c r,text D L t=c::r/\Fx.beg c=true/\c≠43/\c≠45):Fine D L t:=by
 obtain⟨c,r,e,j,f,d⟩:=hb;have b:Beg (text D L t):=⟨c,r,e,j⟩;have b2:NoSg (text D L t):=fun m r' a=>by rw[e] at a;injection a with k l;rw[<-k];exact⟨f,d⟩
 refine⟨?_,b,fun _=>b2,by omega⟩;rw[g];exact Good.yf7 (fun op p _ i=>h op p i) b b2
def ymp {ks:List Tr} (h:(ks.length==2)=true): ∃ k m,ks=[k,m]:=by
 match ks,h with
 | [k,m],_=>exact⟨k,m,rfl⟩
def ykK {ks:List Tr} (h:(ks.length==1)=true): ∃ k,ks=[k]:=by
 match ks,h with
 | [k],_=>exact⟨k,rfl⟩
def yo1 {g:Bs} (hg:0<eT g):g=[61]∨g=[60,62]∨g=[60]∨g=[60,61]∨g=[62]∨g=[62,61]∨g=[38]∨g=[43]∨g=[45]∨g=[42]∨g=[47]∨g=[94]:=by
 unfold eT at hg;split at hg
 ·rename_i h;rcases h with h|h|h|h|h|h<;>simp[h]
 ·split at hg
  ·rename_i h;simp[h]
  ·split at hg
   ·rename_i h;rcases h with h|h<;>simp[h]
   ·split at hg
    ·rename_i h;rcases h with h|h<;>simp[h]
    ·split at hg
     ·rename_i h;simp[h]
     ·omega
def yut {g:Bs} (h:0<eT g) (q:Bs):Fol L (g++q)/\g≠[37]:=by have a:=yo1 h;rcases a with rfl|rfl|rfl|rfl|rfl|rfl|rfl|rfl|rfl|rfl|rfl|rfl<;>exact⟨Fol.cons (by simp[fol]),by simp⟩
def yfM (g:Bs):eT g<=5:=by
 unfold eT;repeat' split
 all_goals omega
def sB (K:Int) (X:Nat) (T:Bs) (I:Bool) (F:Int) (A B:Ce.Rf) (a:List Tr):g8 (.mk K X T I F A B a)=
 ((K==1 || X==0)&&((K==3 || !I)&&((K==4 || F==0)&&((K==5 || (K==6 || decide (A=Ce.zero)))&&((K==6 || decide (B=Ce.zero))&&
 (if K=1 then decide (X<9218868437227405312)&&(T==[]&&a.length==0)
  else if K=2 then decide (T.length<=1000)&&a.length==0
  else if K=3 then T==[]&&a.length==0
  else if K=4 then decide (1<=F)&&(decide (F<=8)&&(T==[]&&a.length==0))
  else if K=5 then Ce.right A&&(T==[]&&a.length==0)
  else if K=6 then Ce.right A&&(Ce.right B&&(T==[]&&a.length==0))
  else if K=7 then(T==[45] || T==[43])&&a.length==1
  else if K=8 then decide (0<eT T)&&a.length==2
  else if K=9 then T==[37]&&a.length==1
  else if K=10 then oF T&&decide (a.length<=30)
  else false)))))):=rfl
def fine (hl:Lc D L): ∀ (n:Nat) (t:Tr),num t<=n->hG t=true->Fine D L t:=by
 intro n
 induction n with
 |zero=>intro t h;cases t;rw[num] at h;omega
 |succ n ih=>
  intro t hn b
  obtain⟨K,X,T,I,F,A,B,g⟩:=t
  rw[num] at hn
  rw[hG,fs] at b
  obtain⟨a,dS⟩:=b
  have u: ∀ k ∈ g,Fine D L k:=fun k f=>ih k (by have:=yv7 f;omega) (ymb f dS)
  have fC: ∀ k ∈ g,deep k<=kv g:=fun k f=>yok f
  have ft:text D L (.mk K X T I F A B g)=asm D L (.mk K X T I F A B g) (g.map (text D L)):=by rw[text,yhn]
  rw[sB] at a
  obtain⟨n1,a⟩:=yab.1 a
  obtain⟨n2,a⟩:=yab.1 a
  obtain⟨n3,a⟩:=yab.1 a
  obtain⟨n4,a⟩:=yab.1 a
  obtain⟨n5,a⟩:=yab.1 a
  by_cases k1:K=1
  ·subst k1
   rw[bT rfl] at a
   simp only[fs,kF,sb] at a
   obtain⟨hx,rfl,i⟩:=a
   obtain rfl:=sV.1 i
   obtain rfl:I=false:=zO
   obtain rfl:F=0:=Bb
   obtain rfl:A=Ce.zero:=CX
   obtain rfl:B=Ce.zero:=Ar
   have b:text D L (.mk 1 X [] false 0 Ce.zero Ce.zero [])=dot D (Fl.oQ X):=yN
   refine Fine.leaf rfl (fun op p hf=>?_) ?_
   ·obtain⟨c,q,s,e,o,O,e3,e4⟩:=yl8 hl hx hf
    rw[b,o,lB,sS,e3]
    simp only[lG,e4]
   ·obtain⟨c,q,s,e,o,O,e3,e4⟩:=yl8 hl hx (Fol.nil L)
    refine⟨c,q,by rw[b,o],by unfold beg;rw[O];rfl,?_,?_⟩<;>(intro e;subst e;exact absurd O bL)
  by_cases Z:K=2
  ·subst Z
   rw[bv bL,bT rfl] at a
   simp only[fs,kF,sb] at a
   obtain⟨j,i⟩:=a
   obtain rfl:=sV.1 i
   obtain rfl:X=0:=z8
   obtain rfl:I=false:=zO
   obtain rfl:F=0:=Bb
   obtain rfl:A=Ce.zero:=CX
   obtain rfl:B=Ce.zero:=Ar
   have b:text D L (.mk 2 0 T false 0 Ce.zero Ce.zero [])=34::(dbl T++[34]):=yN
   refine Fine.leaf rfl (fun op p hf=>?_) ⟨34,_,b,by decide,by decide,by decide⟩
   rw[b,show 34::(dbl T++[34])++p=34::(dbl T++34::p) by simp,sS,ymy hl T p hf]
   simp only[show(2:Nat)≠1 by decide,pI,lG]
   rw[bv aG]
   rfl
  by_cases Y:K=3
  ·subst Y
   rw[bv bL,bv bL,bT rfl] at a
   simp only[fs,sb] at a
   obtain⟨rfl,i⟩:=a
   obtain rfl:=sV.1 i
   obtain rfl:X=0:=z8
   obtain rfl:F=0:=Bb
   obtain rfl:A=Ce.zero:=CX
   obtain rfl:B=Ce.zero:=Ar
   cases I with
   |true=>
    have b:text D L (.mk 3 0 [] true 0 Ce.zero Ce.zero [])=[84,82,85,69]:=yN
    refine Fine.leaf rfl (fun op p hf=>?_) ⟨84,_,b,by decide,by decide,by decide⟩
    rw[b,sS,Rl hl (c:=84) (w:=[82,85,69]) bL bL (ybd hl hf)]
    exact ylE
   |false=>
    have b:text D L (.mk 3 0 [] false 0 Ce.zero Ce.zero [])=[70,65,76,83,69]:=yN
    refine Fine.leaf rfl (fun op p hf=>?_) ⟨70,_,b,by decide,by decide,by decide⟩
    rw[b,sS,Rl hl (c:=70) (w:=[65,76,83,69]) bL bL (ybd hl hf)]
    exact ylE
  by_cases W:K=4
  ·subst W
   rw[bv bL,bv bL,bv bL,bT rfl] at a
   simp only[fs,sb,kF] at a
   obtain⟨f1,f8,rfl,i⟩:=a
   obtain rfl:=sV.1 i
   obtain rfl:X=0:=z8
   obtain rfl:I=false:=zO
   obtain rfl:A=Ce.zero:=CX
   obtain rfl:B=Ce.zero:=Ar
   obtain⟨m,rfl⟩: ∃ m:Nat,F=m:=⟨F.toNat,by omega⟩
   have b:text D L (.mk 4 0 [] false m Ce.zero Ce.zero [])=jq m:=yN
   refine Fine.leaf rfl (fun op p hf=>?_) ?_
   ·rw[b,sS,yuU hl m aG aG p]
    simp only[show(4:Nat)≠1 by decide,show(4:Nat)≠2 by decide,pI,lG]
   ·have l:m=1∨m=2∨m=3∨m=4∨m=5∨m=6∨m=7∨m=8:=aG
    rw[b]
    rcases l with rfl|rfl|rfl|rfl|rfl|rfl|rfl|rfl<;>exact⟨35,_,rfl,by decide,by decide,by decide⟩
  by_cases V:K=5
  ·subst V
   rw[bv bL,bv bL,bv bL,bv bL,bT rfl] at a
   simp only[fs,sb] at a
   obtain⟨M,rfl,i⟩:=a
   obtain rfl:=sV.1 i
   obtain rfl:X=0:=z8
   obtain rfl:I=false:=zO
   obtain rfl:F=0:=Bb
   obtain rfl:B=Ce.zero:=Ar
   obtain⟨c,w,e,c1,c2,c3,c4,c5,c6,c7,c8⟩:=yet M
   have b:text D L (.mk 5 0 [] false 0 A Ce.zero [])=Ce.print A:=yN
   refine Fine.leaf rfl (fun op p hf=>?_) ⟨c,w,by rw[b,e],c3,c4,c5⟩
   rw[b,sS,e,Rl hl c1 c2 (ybd hl hf),<-e]
   simp only[show(3:Nat)≠1 by decide,show(3:Nat)≠2 by decide,show(3:Nat)≠4 by decide,pI,lG,yeI hl hf,ye]
   unfold word mf
   simp only[c7,c8,or_self,pI,c6,show(0:Int)≠3 by decide,tq,ycG,ywG hl hf]
  by_cases U:K=6
  ·subst U
   rw[bv bL,bv bL,bv bL,bv bL,bv bL,bT rfl] at a
   simp only[fs,sb] at a
   obtain⟨M,hB,rfl,i⟩:=a
   obtain rfl:=sV.1 i
   obtain rfl:X=0:=z8
   obtain rfl:I=false:=zO
   obtain rfl:F=0:=Bb
   obtain⟨c,w,e,c1,c2,c3,c4,c5,c6,c7,c8⟩:=yet M
   obtain⟨d,v,E,d1,d2,d3,d4,d5,d6,d7,d8⟩:=yet hB
   have b:text D L (.mk 6 0 [] false 0 A B [])=Ce.print A++58::Ce.print B:=yN
   refine Fine.leaf rfl (fun op p hf=>?_) ⟨c,w++58::Ce.print B,by rw[b,e];rfl,c3,c4,c5⟩
   have GJ:=Rl hl d1 d2 (ybd hl hf)
   rw[<-E] at GJ
   rw[b,tr,lB,sS,e,Rl hl c1 c2 (p:=58::(Ce.print B++p)) (fun d r h=>by injection h with h _;rw[<-h];decide),<-e]
   simp only[show(3:Nat)≠1 by decide,show(3:Nat)≠2 by decide,show(3:Nat)≠4 by decide,pI,lG,show Lib.hasPrefix (58::(Ce.print B++p)) [40]=false by rw[qY];rfl,ye]
   unfold word mf
   simp only[c7,c8,or_self,pI,c6,show(0:Int)≠3 by decide,tq,ycG,qz hl (c:=58) tn (Ce.print B++p),xM,lG,GJ,d7,d8,yeI hl hf,ye,d6]
  by_cases k7:K=7
  ·subst k7
   rw[bv bL,bv bL,bv bL,bv bL,bv bL,bv bL,bT rfl] at a
   rw[fs] at a
   obtain⟨j,i⟩:=a
   obtain⟨k,rfl⟩:=ykK i
   obtain rfl:X=0:=z8
   obtain rfl:I=false:=zO
   obtain rfl:F=0:=Bb
   obtain rfl:A=Ce.zero:=CX
   obtain rfl:B=Ce.zero:=Ar
   have f:=u k cn
   obtain⟨z,y,_⟩:=ybM hl f.good f.rk (m:=6) aG f.beg f.sg
   have eP:=yap (t:=k) (m:=6) cm
   obtain⟨c,rfl,l⟩: ∃ c,T=[c]/\(c=45∨c=43):=by
    rcases zL.1 j with h|h
    ·exact⟨45,eq_of_beq h,.inl rfl⟩
    ·exact⟨43,eq_of_beq h,.inr rfl⟩
   have b:text D L (.mk 7 0 [c] false 0 Ce.zero Ce.zero [k])=c::par 6 k (text D L k):=yN
   have hd:deep (.mk 7 0 [c] false 0 Ce.zero Ce.zero [k])=deep k+1:=by rw[deep,kv,kv];omega
   have A9:one L c=true:=by rcases l with rfl|rfl<;>simp[one]
   have Ni:eT [c]=3:=by rcases l with rfl|rfl<;>decide
   refine⟨?_,⟨c,_,b,by rcases l with rfl|rfl<;>decide⟩,fun h=>absurd h (by show ¬ 7<=6;omega),by show 1<=6;omega⟩
   rw[yfS (by show 6<=6;omega),hd]
   refine Good.ym3 (fun op p J hf H=>?_)
   rw[b,lB,J5,qz hl A9]
   simp only[Ni,xM,lG]
   rw[bv aG,z.un cm (op+1) p aG hf H]
   rfl
  by_cases S:K=8
  ·subst S
   rw[bv bL,bv bL,bv bL,bv bL,bv bL,bv bL,bv bL,bT rfl] at a
   rw[fs,kF] at a
   obtain⟨j,i⟩:=a
   obtain⟨k,m,rfl⟩:=ymp i
   obtain rfl:X=0:=z8
   obtain rfl:I=false:=zO
   obtain rfl:F=0:=Bb
   obtain rfl:A=Ce.zero:=CX
   obtain rfl:B=Ce.zero:=Ar
   have f:=u k cn
   have hm:=u m cn
   have G:=yfM T
   obtain⟨z,y,Q⟩:=ybM hl f.good f.rk (m:=eT T) aG f.beg f.sg
   obtain⟨q1,q2,q3⟩:=ybM hl hm.good hm.rk (m:=eT T+1) aG hm.beg hm.sg
   have eP:=yap (t:=k) (m:=eT T) aG
   have hoq:=yap (t:=m) (m:=eT T+1) aG
   have b:text D L (.mk 8 0 T false 0 Ce.zero Ce.zero [k,m])=par (eT T) k (text D L k)++(T++par (eT T+1) m (text D L m)):=yN
   have hd:deep (.mk 8 0 T false 0 Ce.zero Ce.zero [k,m])=max (deep k) (deep m)+1:=by rw[deep,kv,kv,kv];omega
   have C:rank (.mk 8 0 T false 0 Ce.zero Ce.zero [k,m])=eT T:=rfl
   have dq:opn (.mk 8 0 T false 0 Ce.zero Ce.zero [k,m])=max (deep k) (deep m):=by unfold opn;rw[C,bT G,hd];omega
   refine⟨?_,by rw[b];exact y.app _,fun h=>by rw[C] at h;omega,by rw[C];omega⟩
   rw[C,dq]
   refine Good.yvG (fun op p J hf H=>?_) G
   obtain⟨f1,f2⟩:=yut (L:=L) j (par (eT T+1) m (text D L m)++p)
   have GP:=yvd hl j (q2.app p)
   rw[b,tr,tr,z.ex (eT T) j G cm op _ aG f1 (fun _=>by rw[GP];exact⟨VB _,f2⟩),XV op k _ j G,GP]
   simp only[xM,lG]
   rw[q1.stop aG aG op p aG hf H]
   rfl
  by_cases R:K=9
  ·subst R
   rw[bv bL,bv bL,bv bL,bv bL,bv bL,bv bL,bv bL,bv bL,bT rfl] at a
   rw[fs,sb] at a
   obtain⟨rfl,i⟩:=a
   obtain⟨k,rfl⟩:=ykK i
   obtain rfl:X=0:=z8
   obtain rfl:I=false:=zO
   obtain rfl:F=0:=Bb
   obtain rfl:A=Ce.zero:=CX
   obtain rfl:B=Ce.zero:=Ar
   have f:=u k cn
   obtain⟨z,y,Q⟩:=ybM hl f.good f.rk (m:=7) aG f.beg f.sg
   have eP:=yrn (t:=k)
   have b:text D L (.mk 9 0 [37] false 0 Ce.zero Ce.zero [k])=par 7 k (text D L k)++[37]:=yN
   have hd:deep (.mk 9 0 [37] false 0 Ce.zero Ce.zero [k])=deep k+1:=by rw[deep,kv,kv];omega
   have hb:Beg (text D L (.mk 9 0 [37] false 0 Ce.zero Ce.zero [k])):=by rw[b];exact y.app _
   have x:NoSg (text D L (.mk 9 0 [37] false 0 Ce.zero Ce.zero [k])):=fun c r e=>by obtain⟨c',r',E,_⟩:=y;rw[b,E] at e;injection e with o _;rw[<-o];exact Q cm c' r' E
   refine⟨?_,hb,fun _=>x,by show 1<=7;omega⟩
   rw[yfS (by show 6<=7;omega),hd]
   refine Good.ywY (fun op p J hf=>?_) hb x
   rw[b,tr,List.singleton_append,z.po cm op (37::p) aG (Fol.cons (by simp[fol])),XF,qz hl (c:=37) tn]
   simp only[xM,lG]<;>rfl
  by_cases Ej:K=10
  ·subst Ej
   rw[bv bL,bv bL,bv bL,bv bL,bv bL,bv bL,bv bL,bv bL,bv bL,bT rfl] at a
   rw[fs,kF] at a
   obtain⟨j,i⟩:=a
   obtain rfl:X=0:=z8
   obtain rfl:I=false:=zO
   obtain rfl:F=0:=Bb
   obtain rfl:A=Ce.zero:=CX
   obtain rfl:B=Ce.zero:=Ar
   obtain⟨c,w,rfl,l,hw,kI⟩:=ytf j
   have b:text D L (.mk 10 0 (c::w) false 0 Ce.zero Ce.zero g)=(c::w)++40::(mt L (g.map (text D L))++[41]):=yN
   have hd:deep (.mk 10 0 (c::w) false 0 Ce.zero Ce.zero g)=kv g+1:=by rw[deep]
   have hb:Beg (text D L (.mk 10 0 (c::w) false 0 Ce.zero Ce.zero g)):=by rw[b];exact⟨c,_,rfl,by unfold beg;rw[l];simp⟩
   have x:NoSg (text D L (.mk 10 0 (c::w) false 0 Ce.zero Ce.zero g)):=fun c' r e=>by rw[b,lB] at e;injection e with o _;subst o;constructor<;>(intro e;subst e;exact absurd l bL)
   refine⟨?_,hb,fun _=>x,by show 1<=8;omega⟩
   rw[yfS (by show 6<=8;omega),hd]
   refine Good.yf7 (fun op p J hf=>?_) hb x
   have Kq:(gI c || c==36)=true:=by unfold gI;rw[l];rfl
   rw[b,show(c::w)++40::(mt L (g.map (text D L))++[41])++p=(c::w)++40::(mt L (g.map (text D L))++41::p) by simp,sS,Rl hl Kq hw (p:=40::(mt L (g.map (text D L))++41::p)) (fun d r e=>by injection e with e _;rw[<-e];decide)]
   simp only[show(3:Nat)≠1 by decide,show(3:Nat)≠2 by decide,show(3:Nat)≠4 by decide,pI,lG,show Lib.hasPrefix (40::(mt L (g.map (text D L))++41::p)) [40]=true by rw[qY,yz];rfl,kI,j]
   rw[yhY,bv aG,qz hl (c:=40) tn]
   simp only[]
   by_cases N:g=[]
   ·subst N
    simp only[M8,mt,xi]
    rw[qz hl (c:=41) tn]
    simp only[xM,lG]<;>rfl
   ·have WP:=(yr2 (L:=L) N u).app (41::p)
    have Wu: ¬ ((tok D L (mt L (g.map (text D L))++41::p)).kind =5/\(tok D L (mt L (g.map (text D L))++41::p)).text =[41]):=by obtain⟨d,r,e,jS⟩:=WP;rw[e];rintro ⟨a1,a2⟩;have P:=(Om (ydn (Cd r (ygt jS)) a1)).2.2;rw[a2,qY] at P;simp at P;exact(yls jS).2.2.1 P.1.symm
    rw[bv Wu]
    have:=yoa hl (c::w) (op+1) p g [] N (by simpa using i) (fun k f=>⟨u k f,by have:=fC k f;have h2:=yap (t:=k) (m:=0) aG;rw[bv aG] at h2;omega⟩)
    rw[this]
    rfl
  ·rw[bv k1,bv Z,bv Y,bv W,bv V,bv U,bv k7,bv S,bv R,bv Ej] at a
   exact absurd a cn
def yug (hl:Lc D L) {t:Tr} (h:right t=true) (d:(text D L t).length <=1000):parse D L (text D L t)=(some t,0,0):=by unfold right at h;simp only[fs,kF] at h;obtain⟨f,e,c⟩:=h;have a:=fine (D:=D) hl _ t cm c;have b:=yap (t:=t) (m:=0) aG;rw[bv aG] at b;have:=(a.good.less (r':=1) a.rk cm).stop aG aG 0 [] aG (Fol.nil L) (Stp.nil 1);rw[rm] at this;rw[V0,bv aG,this];simp only[show(tok D L []).kind =0 from rfl,tq,ycG,pI];rw[bv aG,bv aG]
def Q9 (hl:Lc D L) {t:Tr} (h:right t=true) (a:(print D L t).length <=1000):parse D L (print D L t)=(some t,0,0):=by unfold print at a ⊢;rw[bT h] at a ⊢;exact yug hl h a
def yqg (hl:Lc D L) (t:Tr):right t=true↔print D L t≠[]:=by
 unfold print;by_cases h:right t=true
 ·rw[bT h];unfold right at h;simp only[fs,kF] at h;obtain⟨c,r,e,_⟩:=(fine (D:=D) hl _ t cm h.2.2).beg;rw[e];simp[right,h]
 ·rw[bv h];simp[h]
end
end Fx

def rv (r:Ce.Rf):Value:= .agg #[.int .i64 r.col,.int .i64 r.row,.bool r.ac,.bool r.ar]
def LZ (c d:Int) (a b:Bool) (w:World):Calls prog 69 #[.agg #[.int .i64 c,.int .i64 d,.bool a,.bool b]] w (RetB (.bool (Ce.right ⟨c,d,a,b⟩)) w):=by
 obtain⟨v,hv⟩:=bx (Ce.right ⟨c,d,a,b⟩);rw[<-hv];unfold Ce.right at hv;by_cases j:0<=c
 ·by_cases i:c<64
  ·by_cases g:0<=d
   ·by_cases f:d<1000
    ·have e:v=true:=by rw[hv];simp[j,i,g,f]
     have HE:=aL e;clear hv e;go_enter func69,ntmps69
     go_wp2
     exact fD
    ·have e:v=false:=by rw[hv];simp[f]
     have HE:=aL e;clear hv e;go_enter func69,ntmps69
     go_wp2
     exact fD
   ·have e:v=false:=by rw[hv];simp[g]
    have HE:=aL e;clear hv e;go_enter func69,ntmps69
    go_wp2
    exact fD
  ·have e:v=false:=by rw[hv];simp[i]
   have HE:=aL e;clear hv e;go_enter func69,ntmps69
   go_wp2
   exact fD
 ·have e:v=false:=by rw[hv];simp[j]
  have HE:=aL e;clear hv e;go_enter func69,ntmps69
  go_wp2
  exact fD
def yeA (c d:Int) (a b:Bool) (w:World):Calls prog 71 #[.agg #[.int .i64 c,.int .i64 d,.bool a,.bool b]] w (RetB (.bool (Ce.right ⟨c,d,a,b⟩)) w):=by
 obtain⟨v,hv⟩:=bx (Ce.right ⟨c,d,a,b⟩);rw[<-hv];unfold Ce.right at hv;by_cases j:0<=c
 ·by_cases i:c<64
  ·by_cases g:0<=d
   ·by_cases f:d<1000
    ·have e:v=true:=by rw[hv];simp[j,i,g,f]
     have HE:=aL e;clear hv e;go_enter func71,ntmps71
     go_wp2
     exact fD
    ·have e:v=false:=by rw[hv];simp[f]
     have HE:=aL e;clear hv e;go_enter func71,ntmps71
     go_wp2
     exact fD
   ·have e:v=false:=by rw[hv];simp[g]
    have HE:=aL e;clear hv e;go_enter func71,ntmps71
    go_wp2
    exact fD
  ·have e:v=false:=by rw[hv];simp[i]
   have HE:=aL e;clear hv e;go_enter func71,ntmps71
   go_wp2
   exact fD
 ·have e:v=false:=by rw[hv];simp[j]
  have HE:=aL e;clear hv e;go_enter func71,ntmps71
  go_wp2
  exact fD

namespace Fx
open Dc (Bs cu)
def ybE (ks a:List Tr):jz (ks++a)=(jz ks&&jz a):=by
 induction ks with
 |nil=>simp[jz]
 |cons k ks b=>rw[lB,jz,jz,b,Bool.and_assoc]
def yjw (l:Bs) (x:Int):Fl.bits l x<=9218868437227405312:=by unfold Fl.bits;split<;>exact Fl.yoV _ _ _
def ysu {s:Bs} {x:Int} {n:Nat} (h:numb s x=some n):n<9218868437227405312:=by
 unfold numb at h;split at h
 ·simp at h
 ·split at h
  ·rename_i a
   injection h with h;have c:=yjw (Dc.mk false s x).l (Dc.mk false s x).x;rw[h] at c a;rcases qt n 9218868437227405312 with b|b
   ·exact b
   ·have:n=9218868437227405312:=aG;rw[this] at a;exact absurd a bL
  ·simp at h
def yhw {t:Tk} (h:(mf t).2 =0):Ce.right (mf t).1 =true:=by
 unfold mf at h ⊢;simp only at h ⊢;rcases Ce.ybr t.text with ⟨r,e,a⟩|e|e
 ·rw[e];exact a
 ·rw[e] at h;simp at h
 ·rw[e] at h;simp at h
def yse {D L:UInt8} {l:Bs} (h:(tok D L l).kind =4):1<=(tok D L l).exp /\(tok D L l).exp <=8:=by
 unfold tok at h ⊢;generalize skip l=s at h ⊢
 cases s with
 |nil=>simp[tokS] at h
 |cons c r=>
  unfold tokS at h ⊢
  simp only at h ⊢
  split at h
  ·simp[ou] at h
  ·rename_i d
   rw[bv d]
   split at h
   ·split at h<;>simp at h
   ·rename_i b
    rw[bv b]
    split at h
    ·simp at h
    ·rename_i a
     rw[bv a]
     cases e:pq (c::r) with
     |some n=>
      obtain⟨g,f,_⟩:=ydE e
      simp only
      omega
     |none=>
      rw[e] at h
      simp only at h
      split at h<;>simp at h
def yqo {D L:UInt8} {t:Tk} {e:Tr} {l:Bs} (h:word D L t= .ok e l):hG e=true:=by
 unfold word at h;split at h
 ·injection h with a c;subst a;rfl
 ·split at h
  ·simp at h
  ·rename_i g
   have d:(mf t).2 =0:=aG;have b:=yhw d;split at h
   ·simp only at h;split at h
    ·simp[no] at h
    ·split at h
     ·simp at h
     ·rename_i hd
      injection h with a c;subst a;have f:=yhw (t:=tok D L (tok D L t.end').end') aG;rw[hG,sB,b,f];rfl
   ·injection h with a c;subst a;rw[hG,sB,b];rfl
def okN {k:Int} {t:Bs} {ks:List Tr} (a:jz ks=true) (h:g8 (nod k t ks)=true):hG (nod k t ks)=true:=by unfold nod at h ⊢;rw[hG,h,a];rfl
def yv9 {t:Bs} {e g:Tr} {n:Nat} (c:1<=n) (b:eT t=n) (a:hG e=true) (hg:hG g=true):hG (nod 8 t [e,g])=true:=by refine okN (by rw[jz,jz,jz,a,hg];rfl) ?_;unfold nod;rw[sB];simp;omega
def ytA {t:Bs} {e:Tr} (a:eT t=3) (b:hG e=true):hG (nod 7 t [e])=true:=by refine okN (by rw[jz,jz,b];rfl) ?_;unfold nod;rw[sB];rcases yiy a with rfl|rfl<;>rfl
def ywq {e:Tr} (a:hG e=true):hG (nod 9 [37] [e])=true:=by refine okN (by rw[jz,jz,a];rfl) ?_;rfl
def yiQ {a:Bs} {ks:List Tr} (hn:oF a=true) (hl:ks.length<=30) (b:jz ks=true):hG (nod 10 a ks)=true:=by refine okN b ?_;unfold nod;rw[sB];simp[hn,hl]
def yv5 (D L:UInt8) (f:Nat):(∀ n op l e b,1<=n->expr D L f n op l= .ok e b->hG e=true)/\(∀ n op g l e b,1<=n->hG g=true->loop D L f n op g l= .ok e b->hG e=true)/\
 (∀ op l e b,nE D L f op l= .ok e b->hG e=true)/\(∀ g l e b,hG g=true->post D L f g l= .ok e b->hG e=true)/\(∀ op l e b,nl D L f op l= .ok e b->hG e=true)/\
 (∀ op d l e b,oF d=true->call D L f op d l= .ok e b->hG e=true)/\(∀ op d ks l e b,oF d=true->ks.length<30->jz ks=true->args D L f op d ks l= .ok e b->hG e=true):=by
 induction f with
 |zero=>refine⟨?_,?_,?_,?_,?_,?_,?_⟩<;>intros<;>rename_i h<;>simp[expr,loop,nE,post,nl,call,args] at h
 |succ f v=>
  obtain⟨o,t,s,r,y,w,q⟩:=v
  refine⟨?_,?_,?_,?_,?_,?_,?_⟩
  ·intro n op l e b hn h
   rw[expr] at h
   split at h
   ·exact s _ _ _ _ h
   ·split at h
    ·rename_i i j a
     exact t _ _ _ _ _ _ hn (o _ _ _ _ _ aG a) h
    ·simp at h
  ·intro n op g l e b hn hg h
   rw[loop] at h
   split at h
   ·rename_i k
    split at h
    ·rename_i i j a
     exact t _ _ _ _ _ _ hn (yv9 hn k.2 hg (o _ _ _ _ _ aG a)) h
    ·simp at h
   ·injection h with a c;rw[<-a];exact hg
  ·intro op l e b h
   rw[nE] at h
   split at h
   ·rename_i k
    split at h
    ·simp at h
    ·split at h
     ·rename_i i j a
      injection h with m c
      rw[<-m];exact ytA k.2 (s _ _ _ _ a)
     ·simp at h
   ·split at h
    ·rename_i i j a
     exact r _ _ _ _ (y _ _ _ _ a) h
    ·simp at h
  ·intro g l e b hg h
   rw[post] at h
   split at h
   ·exact r _ _ _ _ (ywq hg) h
   ·injection h with a c;rw[<-a];exact hg
  ·intro op l e b h
   rw[nl] at h
   (try simp only at h)
   split at h
   ·split at h
    ·rename_i x hx
     injection h with a c;rw[<-a,hG,sB]
     have:=ysu hx
     simp[jz,this]
    ·simp at h
   ·split at h
    ·split at h
     ·simp at h
     ·rename_i E
      injection h with a c;rw[<-a]
      refine okN rfl ?_
      unfold nod
      rw[sB]
      have:(tok D L l).text.length <=1000:=aG
      simp[this]
    ·split at h
     ·rename_i k
      obtain⟨A,z⟩:=yse k
      injection h with a c;rw[<-a,hG,sB]
      simp[jz,A,z]
     ·split at h
      ·split at h
       ·split at h
        ·rename_i hn;exact w _ _ _ _ _ hn h
        ·simp at h
       ·exact yqo h
      ·split at h
       ·split at h
        ·simp at h
        ·split at h
         ·rename_i i j a
          split at h
          ·injection h with m c;rw[<-m];exact o _ _ _ _ _ cm a
          ·simp[no] at h
         ·simp at h
       ·simp[no] at h
  ·intro op d l e b hn h
   rw[call] at h
   split at h
   ·simp at h
   ·split at h
    ·injection h with a c;rw[<-a];exact yiQ hn cn rfl
    ·exact q _ _ _ _ _ _ hn cn rfl h
  ·intro op d ks l e b hn hl B h
   rw[args] at h
   split at h
   ·rename_i i j a
    have u:jz (ks++[i])=true:=by rw[ybE,B,jz,o _ _ _ _ _ cm a];rfl
    (try simp only at h)
    split at h
    ·split at h
     ·injection h with m c;rw[<-m];exact yiQ hn pp u
     ·split at h
      ·simp at h
      ·rename_i C
       exact q _ _ _ _ _ _ hn (by simp only[j2,gE,rp];omega) u h
    ·simp[no] at h
   ·simp at h
def ygQ {D L:UInt8} {s:Bs} {t:Tr} {e p:Int} (h:parse D L s=(some t,e,p)):right t=true/\e=0/\p=0:=by
 unfold parse at h;split at h
 ·simp at h
 ·split at h
  ·rename_i t' b a
   split at h
   ·simp at h
   ·split at h
    ·simp at h
    ·split at h
     ·simp at h
     ·rename_i c d
      simp only[st,vO] at h;obtain⟨rfl,rfl,rfl⟩:=h;refine⟨?_,rfl,rfl⟩;unfold right;rw[(yv5 D L _).1 _ _ _ _ _ cm a];simp;omega
  ·simp at h
end Fx

def Cs (w:World) (b:Nat) (a:List Value):Prop:=b<w.heap.size/\ ∀ k (h:k<a.length),w.cell? ⟨b,k,none⟩=some a[k]
def Cs.get {w:World} {b:Nat} {a:List Value} (h:Cs w b a) (k:Nat) {v:Value} (c:a[k]? =some v):w.cell? ⟨b,k,none⟩=some v:=by obtain⟨e,d⟩:=o6.1 c;rw[h.2 k e,d]
def Cs.new (w:World) (a:List Value) (t:TypeId):Cs (w.alloc (.cells a.toArray t)) w.heap.size a:=
 ⟨by simp,fun k h=>by
  simp only[World.cell?,World.alloc]
  simp[n9 h]⟩
def Cs.on {w a:World} {b:Nat} {c:List Value} (h:Cs w b c) (hb:Below w.heap.size w a):Cs a b c:=
 ⟨eR h.1 hb.size,fun k d=>(hb.cell (p:=⟨b,k,none⟩) h.1).trans (h.2 k d)⟩
def Cs.alloc {w:World} {b:Nat} {a:List Value} (h:Cs w b a) (o:Obj):Cs (w.alloc o) b a:=h.on (eN.alloc cm o)
def ygs (W:World) (a:Addr):W.drew.cell? a=W.cell? a:=rfl
def yJ (b:Nat): ∀ (a:List Value) (o:Nat) (w:World),(w.setCells b o a).heap.size =w.heap.size
 | [],_,_=>rfl
 |v::r,o,w=>by rw[World.setCells,yJ b r];exact rX _ _ _
def mX {B b:Nat} {w:World} (hb:B<=b): ∀ (a:List Value) (o:Nat) {W:World},Below B w W->Below B w (W.setCells b o a)
 | [],_,_,h=>h
 |v::r,o,W,h=>mX hb r (o+1) (h.setCell (p:=⟨b,o,none⟩) hb v)
def Cs.stored {w:World} {b:Nat} {a:List Value} (us:List Value) (h:Cs w b a) (hl:us.length=a.length):Cs (w.setCells b 0 us) b us:=
 ⟨by rw[yJ];exact h.1,fun k c=>by
  have:=World.cell?_setCells_in b us 0 w (fun j hj=>by rw[iR,h.2 j aG];rfl) k c
  rwa[iR] at this⟩
def Cs.other {w:World} {b c:Nat} {a:List Value} (us:List Value) (h:Cs w b a) (f:b≠c):Cs (w.setCells c 0 us) b a:=
 ⟨by rw[yJ];exact h.1,fun k d=>by rw[ydp _ _ _ _ _ (fun e=>absurd e f)];exact h.2 k d⟩

def Mem (w:World) (b:Nat) (a:List Value) (t:TypeId):Prop:=w.heap[b]? =some (.cells a.toArray t (0,0))
def Mem.lt {w:World} {b:Nat} {a:List Value} {t:TypeId} (h:Mem w b a t):b<w.heap.size:=(yX.1 h).1
def Mem.get {w:World} {b:Nat} {a:List Value} {t:TypeId} (h:Mem w b a t) (k:Nat) {v:Value} (c:a[k]? =some v):w.cell? ⟨b,k,none⟩=some v:=by unfold World.cell?;simp only[];rw[show w.heap[b]? =_ from h];show a.toArray[k]? =_;rw[ykv,c]
def Mem.frozen {w:World} {b:Nat} {a:List Value} {t:TypeId} (h:Mem w b a t) (o:Nat):w.frozen? ⟨b,o,none⟩=false:=by unfold World.frozen?;simp only[];rw[show w.heap[b]? =_ from h];simp
def Mem.below {w w':World} {b B:Nat} {a:List Value} {t:TypeId} (h:Mem w b a t) (hb:Below B w w') (c:b<B):Mem w' b a t:=(hb.block b c).trans h
def Mem.on {w w':World} {b:Nat} {a:List Value} {t:TypeId} (h:Mem w b a t) (hb:Below w.heap.size w w'):Mem w' b a t:=h.below hb h.lt
def Mem.new (w:World) (a:List Value) (t:TypeId):Mem (w.alloc (.cells a.toArray t)) w.heap.size a t:=My w _
def Mem.set {w:World} {b:Nat} {a:List Value} {t:TypeId} (h:Mem w b a t) (i:Nat) (v:Value):Mem (w.setCell ⟨b,i,none⟩ v) b (a.set i v) t:=by have:=heap_setCell_same w b i a.toArray t v h;unfold Mem;rw[this];congr 2;apply M1;simp
def Mem.other {w:World} {b:Nat} {c:List Value} {t:TypeId} (h:Mem w b c t) {a:Addr} (d:b≠a.block) (v:Value):Mem (w.setCell a v) b c t:=(tF w a v b d).trans h
def Mem.grown {w w':World} {b:Nat} {a:List Value} {t:TypeId} {row:Option Nat} (h:Mem w b a t) (hg:w.grownBy w' row) (c:row≠some b):Mem w' b a t:=(hg.block b h.lt (fun e=>c e.symm)).trans h
def Mem.setCells {w:World} {b:Nat} {a us:List Value} {t:TypeId} (h:Mem w b a t) (hl:us.length=a.length):Mem (w.setCells b 0 us) b us t:=by
 have d: ∀ (us:List Value) (o:Nat) (w:World) (a:List Value),Mem w b a t->o+us.length<=a.length->Mem (w.setCells b o us) b (a.take o++us++a.drop (o+us.length)) t:=by
  intro us
  induction us with
  |nil=>intro o w a h _;show Mem w b _ t;simpa using h
  |cons u us f=>
   intro o w a h hl
   rw[gE] at hl
   have c:=f (o+1) _ _ (h.set o u) (by rw[yx];omega)
   have e:(a.set o u).take (o+1)++us++(a.set o u).drop (o+1+us.length)=a.take o++u::us++a.drop (o+(u::us).length):=by rw[List.drop_set_of_lt aG,yh (by rw[yx];omega),ycg cm];simp only[yfl,tr,lB,xi,gE];rw[show o+1+us.length=o+(us.length+1) by omega]
   rw[e] at c
   exact c
 have:=d us 0 w a h aG;rw[wh,xi,iR,hl,yen,rm] at this;exact this
def Mem.yad {w:World} {a b:Addr} (c:b.block≠a.block) (v:Value):(w.setCell a v).cell? b=w.cell? b:=sf (a:=b) (tF w a v b.block c)

def letN (x:Nat):Bool:=(decide (65<=(x:Int))&&decide ((x:Int)<=90)) || (decide (97<=(x:Int))&&decide ((x:Int)<=122))
def digN (x:Nat):Bool:=decide (48<=(x:Int))&&decide ((x:Int)<=57)
def ynF (x:Nat) (w:World):Calls prog 247 #[.int .i32 x] w (Ret0 (.bool (letN x)) w):=by
 obtain⟨v,hv⟩:=bx (letN x);rw[<-hv];unfold letN at hv;by_cases e:65<=(x:Int)
 ·by_cases d:(x:Int)<=90
  ·have a:v=true:=CY;have HE:=aL a;clear hv a;go_enter func247,ntmps247
   go_wp2
   exact oK
  ·by_cases b:97<=(x:Int)
   ·by_cases c:(x:Int)<=122
    ·have a:v=true:=CY;have HE:=aL a;clear hv a;go_enter func247,ntmps247
     go_wp2
     exact oK
    ·have a:v=false:=CY;have HE:=aL a;clear hv a;go_enter func247,ntmps247
     go_wp2
     exact oK
   ·have a:v=false:=CY;have HE:=aL a;clear hv a;go_enter func247,ntmps247
    go_wp2
    exact oK
 ·have b: ¬ 97<=(x:Int):=aG;have a:v=false:=CY;have HE:=aL a;clear hv a;go_enter func247,ntmps247
  go_wp2
  exact oK
def yt4 (x:Nat) (w:World):Calls prog 248 #[.int .i32 x] w (Ret0 (.bool (digN x)) w):=by
 obtain⟨v,hv⟩:=bx (digN x);rw[<-hv];unfold digN at hv;by_cases c:48<=(x:Int)
 ·by_cases b:(x:Int)<=57
  ·have a:v=true:=CY;have HE:=aL a;clear hv a;go_enter func248,ntmps248
   go_wp2
   exact oK
  ·have a:v=false:=CY;have HE:=aL a;clear hv a;go_enter func248,ntmps248
   go_wp2
   exact oK
 ·have a:v=false:=CY;have HE:=aL a;clear hv a;go_enter func248,ntmps248
  go_wp2
  exact oK

section
open Go
def yc7 (s:ByteArray) (i:Nat) (h:(s.get! i).toNat <128):Utf8.decode s i=((s.get! i).toNat,1):=by unfold Utf8.decode;simp only[ms];rw[bT aG]
def ylM (s:ByteArray) (i:Nat) (h:128<=(s.get! i).toNat):128<=(Utf8.decode s i).1 :=by
 unfold Utf8.decode;simp only[ms];have a:128<=Utf8.runeError:=bL;rw[bv aG];split
 ·split
  ·simp only;omega
  ·exact a
 ·split
  ·split
   ·rename_i b
    simp only[ycH,fs,kF] at b;simp only;omega
   ·exact a
  ·split
   ·split
    ·rename_i b
     simp only[ycH,fs,kF] at b;simp only;omega
    ·exact a
   ·exact a
def get!_eq (s:ByteArray) (i:Nat) (h:i<s.size):s.get! i=s[i]:=by
 cases s with
 |mk d=>
  have h':i<d.size:=h
  show d[i]! =d[i]
  rw[getElem!_pos d i h']
def yaK (s:ByteArray) (i:Nat) (h:i<s.size):s.data.toList.drop i=s[i]::s.data.toList.drop (i+1):=by have a:i<s.data.toList.length:=nu;rw[xE a];congr 1
def yf0 (p:UInt8->Bool) (l:List UInt8):l.drop (l.takeWhile p).length =l.dropWhile p:=by
 induction l with
 |nil=>rfl
 |cons c l a=>by_cases h:p c=true<;>simp[h,a]
def yb0 (p:UInt8->Bool) (l:List UInt8):l.take (l.takeWhile p).length =l.takeWhile p:=by
 induction l with
 |nil=>rfl
 |cons c l a=>by_cases h:p c=true<;>simp[h,a]
def yul (q:Nat->Bool) (hq: ∀ x,128<=x->q x=false) (s:ByteArray): ∀ (f pos:Nat),s.size-pos<=f->pos<=s.size->
 Lib.idxFuncFrom q false s f pos=if(s.data.toList.drop pos).dropWhile (fun c=>q c.toNat)=[] then -1 else((pos+((s.data.toList.drop pos).takeWhile (fun c=>q c.toNat)).length :Nat):Int):=by
 intro f
 induction f with
 |zero=>
  intro pos i g
  have:s.data.toList.drop pos=[]:=KC pp
  rw[this];simp[Lib.idxFuncFrom]
 |succ f e=>
  intro pos i g
  unfold Lib.idxFuncFrom
  by_cases b:pos<s.size
  ·rw[bT b,yaK s pos b]
   have hg:=get!_eq s pos b
   by_cases a:q (s[pos]).toNat =true
   ·have j:(s[pos]).toNat <128:=by
     rcases qt (s[pos]).toNat 128 with h|h
     ·exact h
     ·rw[hq _ h] at a;cases a
    rw[yc7 s pos (by rw[hg];exact j),hg]
    simp only
    rw[bv (by rw[a];simp),e (pos+1) aG aG,RM (p:=fun c:UInt8=>q c.toNat) a,Wt (p:=fun c:UInt8=>q c.toNat) a]
    split
    ·rfl
    ·rw[gE];omega
   ·have d:q (s[pos]).toNat =false:=by simpa using a
    have hd:q (Utf8.decode s pos).1 =false:=by
     rcases qt (s[pos]).toNat 128 with h|h
     ·rw[yc7 s pos (by rw[hg];exact h),hg];exact d
     ·exact hq _ (ylM s pos (by rw[hg];exact h))
    rw[bT hd,yV (p:=fun c:UInt8=>q c.toNat) a,J6 (p:=fun c:UInt8=>q c.toNat) a]
    simp
  ·rw[bv b]
   have:s.data.toList.drop pos=[]:=KC pp
   rw[this];simp
def ydK (q:Nat->Bool) (hq: ∀ x,128<=x->q x=false) (s:ByteArray):(Lib.trimLeftF q s).data.toList =s.data.toList.dropWhile (fun c=>q c.toNat):=by
 have h:=yul q hq s s.size 0 aG aG;rw[sc] at h;unfold Lib.trimLeftF Lib.idxFunc;rw[h];by_cases a:s.data.toList.dropWhile (fun c=>q c.toNat)=[]
 ·rw[bT a,bT rfl,a]
 ·rw[bv a,bv aG];rw[vL];have b:(((0+(s.data.toList.takeWhile (fun c=>q c.toNat)).length :Nat):Int)).toNat =(s.data.toList.takeWhile (fun c=>q c.toNat)).length :=aG;rw[b,yf0]
end

def I2 (s:ByteArray):(⟨s.data.toList.toArray⟩:ByteArray)=s:=cn
def yo2 (x:Nat) (h:128<=x):letN x=false:=by unfold letN;simp;omega
def yh1 (x:Nat) (h:128<=x):digN x=false:=by unfold digN;simp;omega
def yrp (q:Nat->Bool) (hq: ∀ x,128<=x->q x=false) (s R:ByteArray) (b:R=Lib.trimLeftF q s):R.data.toList=s.data.toList.dropWhile (fun c=>q c.toNat)/\R.size<=s.size/\
 (s.extract 0 (s.size-R.size)).data.toList =s.data.toList.takeWhile (fun c=>q c.toNat):=by
 have a:R.data.toList=s.data.toList.dropWhile (fun c=>q c.toNat):=by rw[b];exact ydK q hq s
 have e:=sI (p:=fun c:UInt8=>q c.toNat) (l:=s.data.toList);have d:=dZ List.length e;rw[j2,<-a,dN,dN] at d;refine⟨a,by omega,?_⟩;rw[SK,sc,zF,show s.size-R.size=(s.data.toList.takeWhile (fun c=>q c.toNat)).length by omega];exact yb0 _ _
def ykj (q:Nat->Bool) (hq: ∀ x,128<=x->q x=false) (f:Nat) (m: ∀ args w,(callFunc f args).run prog w= .ok (.enter f args) w) (g: ∀ x w,Calls prog f #[.int .i32 (x:Nat)] w (Ret0 (.bool (q x)) w))
 (s:ByteArray) (w:World) (u:s.size<=9223372036854775807):
 Calls prog 246 #[.string s,.func (.func f) #[] #[]] w (RetB (.tuple #[.string ⟨(s.data.toList.takeWhile (fun c=>q c.toNat)).toArray⟩,.string ⟨(s.data.toList.dropWhile (fun c=>q c.toNat)).toArray⟩]) w):=by
 have a:=fun W=>strings_TrimLeftFunc f #[] m q s W (fun n x _=>(g x n).mono fun e w' ⟨l,k⟩=>⟨l,0,by rw[<-k];rfl⟩);obtain⟨R,b⟩:=bx (Lib.trimLeftF q s);rw[<-b] at a;obtain⟨c1,c2,c3⟩:=yrp q hq s R b;rw[<-c1,<-c3];have j:=I2 R;have i:=I2 (s.extract 0 (s.size-R.size));rw[j,i];obtain⟨H,d⟩:=bx (s.extract 0 (s.size-R.size));rw[<-d]
 have t: ∀ w:World,(Instr.slice 9 (.string s) none (some (.int .i64 ((s.size:Int)-R.size))) none).run prog w= .ok (.string H) w:=fun w=>by rw[yaq w _ s .i64 _ underlying9,bT aG,d];congr 3;omega
 have o:=aL a;clear a b c1 c3 j i d g;go_enter func246,ntmps246
 go_wp2_with (go_at_call 58;refine cp (o.out _) ?_;intro r v)
 go_ret2
 exact qO
def ypQ (s:ByteArray) (w:World) (a:s.size<=9223372036854775807):
 Calls prog 246 #[.string s,.func (.func 247) #[] #[]] w (RetB (.tuple #[.string ⟨(s.data.toList.takeWhile Ce.gI).toArray⟩,.string ⟨(s.data.toList.dropWhile Ce.gI).toArray⟩]) w):=
 ykj letN yo2 247 (ZR func247 cI rfl) (fun x w=>ynF x w) s w a
def ypp (s:ByteArray) (w:World) (a:s.size<=9223372036854775807):
 Calls prog 246 #[.string s,.func (.func 248) #[] #[]] w (RetB (.tuple #[.string ⟨(s.data.toList.takeWhile Dc.cu).toArray⟩,.string ⟨(s.data.toList.dropWhile Dc.cu).toArray⟩]) w):=
 ykj digN yh1 248 (ZR func248 cI rfl) (fun x w=>yt4 x w) s w a

section
open Go
def yj5 (s:ByteArray):s.data.toList.length=s.size:=cn
def yi (x:Nat):Bool:=decide (x=32) || (decide (x=9) || (decide (x=10) || (decide (x=13) || decide (x=160))))
def yj0 (s:ByteArray) (i:Nat) (h:i+1<s.size) (b:(s.get! i).toNat =194) (a:(s.get! (i+1)).toNat =160):Utf8.decode s i=(160,2):=by unfold Utf8.decode;simp only[ms,b,a];rw[bv bL,bT (by simp[h])];rfl
def ysd (s:ByteArray) (i:Nat) (h:(Utf8.decode s i).1 =160) (e:128<=(s.get! i).toNat):(s.get! i).toNat =194/\i+1<s.size/\(s.get! (i+1)).toNat =160:=by
 unfold Utf8.decode at h;simp only[ms] at h;have a:Utf8.runeError=65533:=rfl;have hb:=(s.get! i).toNat_lt;have f:=(s.get! (i+1)).toNat_lt;rw[bv aG] at h;split at h
 ·rename_i c
  simp only[fs,sb,kF] at c;split at h
  ·simp only at h;obtain⟨j,d,g⟩:=c;exact⟨by omega,d,by omega⟩
  ·simp only[a] at h;omega
 ·split at h
  ·split at h
   ·rename_i b
    simp only[ycH,fs,kF] at b;simp only at h;omega
   ·simp only[a] at h;omega
  ·split at h
   ·split at h
    ·rename_i b
     simp only[ycH,fs,kF] at b;simp only at h;omega
    ·simp only[a] at h;omega
   ·simp only[a] at h;omega
def yeD {c:UInt8} {r:List UInt8} (h: ¬ (c=32∨c=9∨c=10∨c=13)) (a: ∀ t,¬ (c=194/\r=160::t)):Fx.skip (c::r)=c::r:=by
 rw[Fx.skip]
 ·rw[bv h]
 ·intro s d b;exact a s ⟨d,b⟩
def yke {c:UInt8} {r:List UInt8} (h:c=32∨c=9∨c=10∨c=13):Fx.skip (c::r)=Fx.skip r:=by
 rw[Fx.skip]
 ·rw[bT h]
 ·intro s a b;subst a;rcases h with h|h|h|h<;>cases h
def yws (s:ByteArray): ∀ (f pos:Nat),s.size-pos<=f->pos<=s.size->
 Lib.idxFuncFrom yi false s f pos=if Fx.skip (s.data.toList.drop pos)=[] then -1 else((s.size-(Fx.skip (s.data.toList.drop pos)).length :Nat):Int):=by
 intro f
 induction f with
 |zero=>
  intro pos u r
  have:s.data.toList.drop pos=[]:=KC pp
  rw[this];simp[Lib.idxFuncFrom,Fx.skip]
 |succ f m=>
  intro pos u r
  unfold Lib.idxFuncFrom
  by_cases c:pos<s.size
  ·rw[bT c]
   have hg:=get!_eq s pos c
   have hd:=yaK s pos c
   have n:(s.data.toList.drop pos).length =s.size-pos:=by rw[rS,yj5]
   rcases qt (s[pos]).toNat 128 with j|b
   ·rw[yc7 s pos (by rw[hg];exact j),hg]
    simp only
    by_cases hb:s[pos]=32∨s[pos]=9∨s[pos]=10∨s[pos]=13
    ·have hq:yi (s[pos]).toNat =true:=by
      unfold yi;rcases hb with h|h|h|h<;>rw[h]<;>decide
     rw[bv (by rw[hq];simp),m (pos+1) aG aG,hd,yke hb]
    ·have hq:yi (s[pos]).toNat =false:=by
      unfold yi;simp only[Ss,B7];refine⟨fun h=>hb (.inl ?_),fun h=>hb (.inr (.inl ?_)),fun h=>hb (.inr (.inr (.inl ?_))),fun h=>hb (.inr (.inr (.inr ?_))),by omega⟩<;>exact qu.1 h
     have g:Fx.skip (s.data.toList.drop pos)=s.data.toList.drop pos:=by rw[hd];exact yeD hb (fun t h=>by rw[h.1] at j;exact absurd j bL)
     rw[bT hq,g,bv (by rw[hd];simp),n]
     congr 1;omega
   ·by_cases l:(Utf8.decode s pos).1 =160
    ·obtain⟨q,k,o⟩:=ysd s pos l (by rw[hg];exact b)
     rw[yj0 s pos k q o]
     simp only
     rw[bv bL,m (pos+2) aG aG]
     have d:=get!_eq s (pos+1) k
     have i:s[pos]=194:=qu.1 (by rw[<-hg,q];rfl)
     have a:s[pos+1]=160:=qu.1 (by rw[<-d,o];rfl)
     rw[hd,yaK s (pos+1) k,i,a,Fx.skip]
    ·have hq:yi (Utf8.decode s pos).1 =false:=by
      have:=ylM s pos (by rw[hg];exact b);unfold yi;simp only[Ss,B7];omega
     have g:Fx.skip (s.data.toList.drop pos)=s.data.toList.drop pos:=by
      rw[hd];refine yeD (fun h=>?_) (fun t h=>?_)
      ·rcases h with h|h|h|h<;>rw[h] at b<;>exact absurd b bL
      ·obtain⟨i,a⟩:=h;by_cases e:pos+1<s.size
       ·rw[yaK s (pos+1) e] at a;injection a with a _;have d:=get!_eq s (pos+1) e;exact l (by rw[yj0 s pos e (by rw[hg,i];rfl) (by rw[d,a];rfl)])
       ·rw[KC pp] at a;cases a
     rw[bT hq,g,bv (by rw[hd];simp),n]
     congr 1;omega
  ·rw[bv c]
   have:s.data.toList.drop pos=[]:=KC pp
   rw[this];simp[Fx.skip]
def yoS (l:List UInt8):l.drop (l.length-(Fx.skip l).length)=Fx.skip l:=by
 induction l using Fx.skip.induct with
 |case1 s a=>
  rw[Fx.skip]
  have:=Fx.yP s
  rw[show(194::160::s).length -(Fx.skip s).length =(s.length-(Fx.skip s).length)+1+1 by simp only[gE];omega,P3,P3,a]
 |case2 c s b h a=>
  rw[yke h]
  have:=Fx.yP s
  rw[show(c::s).length -(Fx.skip s).length =(s.length-(Fx.skip s).length)+1 by simp only[gE];omega,P3,a]
 |case3 c s b h=>rw[yeD h (fun t h=>b t h.1 h.2)];simp
 |case4=>simp[Fx.skip]
def yoh (s:ByteArray):(Lib.trimLeftF yi s).data.toList =Fx.skip s.data.toList:=by
 have h:=yws s s.size 0 aG aG;rw[sc] at h;unfold Lib.trimLeftF Lib.idxFunc;rw[h];by_cases a:Fx.skip s.data.toList=[]
 ·rw[bT a,bT rfl,a]
 ·rw[bv a,bv aG,vL];have b:(((s.size-(Fx.skip s.data.toList).length :Nat):Int)).toNat =s.data.toList.length-(Fx.skip s.data.toList).length :=by rw[yj5];omega
  rw[b];exact yoS _
end

def worN (x:Nat):Bool:=letN x || (digN x || (decide (x=36) || (decide (x=46) || decide (x=95))))
def yrq:(fun c:UInt8=>digN c.toNat)=Dc.cu:=rfl
def yue (x:Nat) (h:128<=x):worN x=false:=by unfold worN letN digN;simp;omega
def yti (c:UInt8):worN c.toNat=Fx.j1 c:=by have h: ∀ i:Fin 256,worN (UInt8.ofNat i.1).toNat =Fx.j1 (UInt8.ofNat i.1):=tX;exact yah
def yoT:(fun c:UInt8=>worN c.toNat)=Fx.j1:=funext yti
def ytd (c:UInt8):letN c.toNat=Fx.gI c:=by have h: ∀ i:Fin 256,letN (UInt8.ofNat i.1).toNat =Fx.gI (UInt8.ofNat i.1):=tX;exact yah
def zH (s:ByteArray):(⟨s.data.toList.toArray⟩:ByteArray)=s:=cn
def ylg (x:Nat) (w:World):Calls prog 95 #[.int .i32 x] w (Ret0 (.bool (digN x)) w):=by
 obtain⟨v,hv⟩:=bx (digN x);rw[<-hv];unfold digN at hv;by_cases b:48<=(x:Int)
 ·by_cases a:(x:Int)<=57
  ·have HE:=aL (show v=true by rw[hv];simp;omega);clear hv;go_enter func95,ntmps95
   go_wp2
   exact oK
  ·refine JP ?_;intro HE;clear hv;go_enter func95,ntmps95
   go_wp2
   exact oK
 ·refine JP ?_;intro HE;clear hv;go_enter func95,ntmps95
  go_wp2
  exact oK
def yip (x:Nat) (w:World):Calls prog 64 #[.int .i32 x] w (Ret0 (.bool (letN x)) w):=by
 obtain⟨v,hv⟩:=bx (letN x);rw[<-hv];unfold letN at hv;by_cases d:65<=(x:Int)
 ·by_cases c:(x:Int)<=90
  ·have HE:=aL (show v=true by rw[hv];simp;omega);clear hv;go_enter func64,ntmps64
   go_wp2
   exact oK
  ·by_cases a:97<=(x:Int)
   ·by_cases b:(x:Int)<=122
    ·have HE:=aL (show v=true by rw[hv];simp;omega);clear hv;go_enter func64,ntmps64
     go_wp2
     exact oK
    ·refine JP ?_;intro HE;clear hv;go_enter func64,ntmps64
     go_wp2
     exact oK
   ·refine JP ?_;intro HE;clear hv;go_enter func64,ntmps64
    go_wp2
    exact oK
 ·have a: ¬ 97<=(x:Int):=aG;refine JP ?_;intro HE;clear hv;go_enter func64,ntmps64
  go_wp2
  exact oK
def ymo (x:Nat) (w:World):Calls prog 59 #[.int .i32 x] w (Ret0 (.bool (yi x)) w):=by
 obtain⟨v,hv⟩:=bx (yi x);rw[<-hv];unfold yi at hv;by_cases e:x=32
 ·have HE:=aL (show v=true by rw[hv];simp[e]);clear hv;subst e;go_enter func59,ntmps59
  go_wp2
  exact oK
 have l:((x:Int)==32)=false:=nY;by_cases d:x=9
 ·have HE:=aL (show v=true by rw[hv];simp[d]);clear hv;subst d;go_enter func59,ntmps59
  go_wp2
  exact oK
 have j:((x:Int)==9)=false:=nY;by_cases c:x=10
 ·have HE:=aL (show v=true by rw[hv];simp[c]);clear hv;subst c;go_enter func59,ntmps59
  go_wp2
  exact oK
 have i:((x:Int)==10)=false:=nY;by_cases b:x=13
 ·have HE:=aL (show v=true by rw[hv];simp[b]);clear hv;subst b;go_enter func59,ntmps59
  go_wp2
  exact oK
 have g:((x:Int)==13)=false:=nY;by_cases a:x=160
 ·have HE:=aL (show v=true by rw[hv];simp[a]);clear hv;subst a;go_enter func59,ntmps59
  go_wp2
  exact oK
 have f:((x:Int)==160)=false:=nY;refine JP ?_;intro HE;clear hv e d c b a;go_enter func59,ntmps59
 go_wp2
 exact oK
def ysG (x:Nat) (w:World):Calls prog 65 #[.int .i32 x] w (Ret0 (.bool (worN x)) w):=by
 obtain⟨v,hv⟩:=bx (worN x);rw[<-hv];unfold worN at hv;have hl:=fun w=>yip x w;have hd:=fun w=>ylg x w;obtain⟨p,g⟩:=bx (letN x);obtain⟨q,hq⟩:=bx (digN x);rw[<-g] at hl hv;rw[<-hq] at hd hv;obtain⟨a,b⟩:=dY hl hd;clear hl hd g hq;cases p
 ·cases q
  ·rw[Sc,Sc] at hv;by_cases f:x=36
   ·have HE:=aL (show v=true by rw[hv];simp[f]);clear hv;subst f;go_enter func65,ntmps65
    go_wp2_with (first|fail|(go_at_call 64;(refine(a.out _).mono ?_);rintro e w' ⟨rfl,rfl⟩)|(go_at_call 95;(refine(b.out _).mono ?_);rintro e w' ⟨rfl,rfl⟩))
    exact oK
   have l:((x:Int)==36)=false:=nY;by_cases d:x=46
   ·have HE:=aL (show v=true by rw[hv];simp[d]);clear hv;subst d;go_enter func65,ntmps65
    go_wp2_with (first|fail|(go_at_call 64;(refine(a.out _).mono ?_);rintro e w' ⟨rfl,rfl⟩)|(go_at_call 95;(refine(b.out _).mono ?_);rintro e w' ⟨rfl,rfl⟩))
    exact oK
   have j:((x:Int)==46)=false:=nY;by_cases c:x=95
   ·have HE:=aL (show v=true by rw[hv];simp[c]);clear hv;subst c;go_enter func65,ntmps65
    go_wp2_with (first|fail|(go_at_call 64;(refine(a.out _).mono ?_);rintro e w' ⟨rfl,rfl⟩)|(go_at_call 95;(refine(b.out _).mono ?_);rintro e w' ⟨rfl,rfl⟩))
    exact oK
   have i:((x:Int)==95)=false:=nY;refine JP ?_;intro HE;clear hv f d c;go_enter func65,ntmps65
   go_wp2_with (first|fail|(go_at_call 64;refine cY (a.out _) ?_)|(go_at_call 95;refine cY (b.out _) ?_))
   exact oK
  ·have HE:=aL (show v=true by rw[hv];rfl);clear hv;go_enter func65,ntmps65
   go_wp2_with (first|fail|(go_at_call 64;refine cY (a.out _) ?_)|(go_at_call 95;refine cY (b.out _) ?_))
   exact oK
 ·have HE:=aL (show v=true by rw[hv];rfl);clear hv;go_enter func65,ntmps65
  go_wp2_with (first|fail|(go_at_call 64;refine cY (a.out _) ?_)|(go_at_call 95;refine cY (b.out _) ?_))
  exact oK
def ywT (s:ByteArray) (W:World):Calls prog 58 #[.string s,.func (.func 95) #[] #[]] W (RetB (.string ⟨(s.data.toList.dropWhile Dc.cu).toArray⟩) W):=by have a:=strings_TrimLeftFunc 95 #[] (ZR func95 cI rfl) digN s W (fun d x _=>(ylg x d).mono fun e w' ⟨c,b⟩=>⟨c,0,by rw[<-b];rfl⟩);have e:=ydK digN yh1 s;rw[yrq] at e;rw[<-e,zH];exact a
def ytj (s:ByteArray) (W:World):Calls prog 58 #[.string s,.func (.func 65) #[] #[]] W (RetB (.string ⟨(s.data.toList.dropWhile Fx.j1).toArray⟩) W):=by have a:=strings_TrimLeftFunc 65 #[] (ZR func65 cI rfl) worN s W (fun d x _=>(ysG x d).mono fun e w' ⟨c,b⟩=>⟨c,0,by rw[<-b];rfl⟩);have e:=ydK worN yue s;rw[yoT] at e;rw[<-e,zH];exact a
def yiT (s:ByteArray) (W:World):Calls prog 58 #[.string s,.func (.func 59) #[] #[]] W (RetB (.string ⟨(Fx.skip s.data.toList).toArray⟩) W):=by have a:=strings_TrimLeftFunc 59 #[] (ZR func59 cI rfl) yi s W (fun d x _=>(ymo x d).mono fun e w' ⟨c,b⟩=>⟨c,0,by rw[<-b];rfl⟩);have e:=yoh s;rw[<-e,zH];exact a
def ygo (s H:ByteArray) (n:Nat) (hn:n<=s.size) (a:H.data.toList=s.data.toList.take n) (w:World):(Instr.slice 9 (.string s) none (some (.int .i64 (n:Int))) none).run prog w= .ok (.string H) w:=by rw[yaq w _ s .i64 _ underlying9,bT aG];congr 2;rw[show(n:Int).toNat =n by omega];rw[<-zH (s.extract 0 n),<-zH H,SK,sc,zF,a]
def R8 (s:ByteArray) (w:World) (hz:s.size<=9223372036854775807):Calls prog 61 #[.string s] w (RetB (.string ⟨(s.data.toList.takeWhile Dc.cu).toArray⟩) w):=by
 have a:=fun W=>ywT s W;obtain⟨R,b⟩:=bx (⟨(s.data.toList.dropWhile Dc.cu).toArray⟩:ByteArray);obtain⟨H,c⟩:=bx (⟨(s.data.toList.takeWhile Dc.cu).toArray⟩:ByteArray);have d:=dZ List.length (sI (p:=Dc.cu) (l:=s.data.toList));rw[j2,dN] at d;have f:R.size=(s.data.toList.dropWhile Dc.cu).length :=by rw[b,nm]
 have e:H.data.toList=s.data.toList.take (s.data.toList.takeWhile Dc.cu).length :=by rw[c,yb0]
 have g:=ygo s H (s.data.toList.takeWhile Dc.cu).length aG e;rw[show(((s.data.toList.takeWhile Dc.cu).length :Nat):Int)=(s.size:Int)-(R.size:Int) by omega] at g;rw[<-b] at a;rw[<-c];have i:=aL a;have k:R.size<=s.size:=aG;clear a b c d e f;go_enter func61,ntmps61
 go_wp2_with (first|(go_at_call 58;refine cp (i.out _) ?_;intro j m))
 go_ret
 exact qO

def yh6:Go.Shelf.Ren:=⟨fun|167=>97|240=>102|276=>132|n=>n,fun|0=>0|4=>4|5=>5|9=>9|20=>20|37=>127|70=>126|72=>129|75=>132|164=>174|80=>137|n=>n,fun|n=>n⟩
def layB:Go.Proofs.Lays.n167 prog yh6:= {
 mixed:=cI
 f167:=func97.trans (dZ some cI)
 f240:=func102.trans (dZ some cI)
 f276:=func132.trans (dZ some cI)
 t0:=underlying0
 a0:=isAgg0
 z0:=sizeOf0
 v0:=zeroValue0
 t4:=underlying4
 a4:=isAgg4
 z4:=sizeOf4
 v4:=zeroValue4
 t5:=underlying5
 a5:=isAgg5
 z5:=sizeOf5
 v5:=zeroValue5
 t9:=underlying9
 a9:=isAgg9
 z9:=sizeOf9
 v9:=zeroValue9
 t20:=underlying20
 a20:=isAgg20
 z20:=sizeOf20
 v20:=zeroValue20
 t37:=underlying127
 a37:=isAgg127
 z37:=sizeOf127
 v37:=zeroValue127
 t70:=underlying126
 a70:=isAgg126
 z70:=sizeOf126
 v70:=zeroValue126
 t72:=underlying129
 a72:=isAgg129
 z72:=sizeOf129
 v72:=zeroValue129
 t75:=underlying132
 a75:=isAgg132
 z75:=sizeOf132
 v75:=zeroValue132
 t164:=underlying174
 a164:=isAgg174
 z164:=sizeOf174
 v164:=zeroValue174
}
def yq8:Builder.Extra prog yh6:= {
 sizeBuilder:=cI
 liesBuilder:=cI
 t5:=underlying5
 a5:=isAgg5
 z5:=sizeOf5
 v5:=zeroValue5
 infoByte:=cI
 cellsByte:=cI
 sizeByte:=cI
 neB5:=by decide}
def ywL (B b:Nat) (a:List Value) (c:Int) (w:World) (h:Lib.IsBuilder 129 5 B b a w) (f:a.length+1<=140737488355328) (d:B<=w.heap.size):
 Calls prog 97 #[.pointer (some ⟨b,0,none⟩),.int .u8 c] w fun e w'=>e= .returned .nilIface /\(Lib.BuilderAt 129 5 B b (.pointer (some ⟨b,0,none⟩)) (a++[.int .u8 c]) w'/\Below B w w'):=
 Any.Builder_WriteByte layB yq8 B b a c w h f d
def yms (B b:Nat) (l:List UInt8) (w:World) (h:Lib.IsBuilder 129 5 B b (Lib.byteCells l) w) (a:B<=w.heap.size):
 Calls prog 78 #[.pointer (some ⟨b,0,none⟩)] w fun e w'=>e= .returned (.string ⟨l.toArray⟩)/\Below B w w':=Builder_String_any B b l w h a

namespace Fl
open Go
def ybV {n m:Nat} (h:n+m=64):2^n*2^m=18446744073709551616:=by rw[<-Nat.pow_add,h]
def yd2 {lo n m:Nat} (h:n+m=64):lo*2^n=lo / 2^m*18446744073709551616+lo % 2^m*2^n:=by
 have e:=sz lo (2^m);have a:lo*2^n=(2^m*(lo / 2^m)+lo % 2^m)*2^n:=by rw[e]
 rw[a,iW,<-ybV h];congr 1;simp only[fB,fM,vf]
def yj4 {hi lo n m:Nat} (h:n+m=64) (hl:lo<18446744073709551616):
 hi*2^n % 18446744073709551616 % 2^n=0/\lo / 2^m<2^n/\hi*2^n % 18446744073709551616+lo / 2^m<18446744073709551616/\
 (hi*18446744073709551616+lo)*2^n / 18446744073709551616 % 18446744073709551616=hi*2^n % 18446744073709551616+lo / 2^m/\
 (hi*18446744073709551616+lo)*2^n % 18446744073709551616=lo*2^n % 18446744073709551616:=by
 have a:=ybV h;have k:0<2^n:=fp bL;have c:0<2^m:=fp bL;have i:hi*2^n % 18446744073709551616=2^n*(hi % 2^m):=by rw[<-a,fM hi,Nat.mul_mod_mul_left]
 have o:lo / 2^m<2^n:=by rw[wm c,a];exact hl
 have r:=kk hi c
 have f:hi*2^n % 18446744073709551616+lo / 2^m<18446744073709551616:=by have:=nS (2^n) (show hi % 2^m+1<=2^m by omega);rw[lW,oU,a] at this;rw[i];omega
 have l:=yd2 (lo:=lo) h
 have q:lo % 2^m*2^n<18446744073709551616:=by rw[<-a,fM (2^n)];exact jd (kk _ c) k
 obtain⟨X,e⟩:=bx (hi*2^n);obtain⟨Y,d⟩:=bx (lo*2^n);obtain⟨R,g⟩:=bx (lo % 2^m*2^n);obtain⟨L,b⟩:=bx (lo / 2^m)
 have j:(hi*18446744073709551616+lo)*2^n=X*18446744073709551616+Y:=by rw[e,d,iW,qV]
 refine⟨by rw[i,Nat.mul_mod_right],o,f,?_,?_⟩
 ·rw[j,<-e,<-b];rw[<-e,<-b] at f;rw[<-d,<-b,<-g] at l;rw[<-g] at q;omega
 ·rw[j,<-d];omega
def ygh {A L n:Nat} (b:A % 2^n=0) (a:L<2^n) (h:A+L<18446744073709551616):Go.bits BinOp.or IntKind.u64 (A:Int) (L:Int)=((A+L:Nat):Int):=by
 rw[Il A L aG aG];congr 1;have e:A=2^n*(A / 2^n):=by have:=sz A (2^n);omega
 rw[e];exact(Yj a (A / 2^n)).symm
def ygO {A L n:Nat} (b:A % 2^n=0) (a:L<2^n) (h:A+L<18446744073709551616):Go.bits BinOp.or IntKind.u64 (L:Int) (A:Int)=((A+L:Nat):Int):=by rw[Il L A aG aG,Nat.or_comm];have:=ygh b a h;rw[Il A L aG aG] at this;exact this
def ybP {x y n m:Nat} (h:n+m=64) (hx:x<18446744073709551616):
 (y*2^m % 18446744073709551616) % 2^m=0/\x / 2^n<2^m/\y*2^m % 18446744073709551616+x / 2^n<18446744073709551616/\
 (y*18446744073709551616+x) / 2^n % 18446744073709551616=y*2^m % 18446744073709551616+x / 2^n:=by
 have f:=ybV h;have c:0<2^n:=fp bL;have j:0<2^m:=fp bL;obtain⟨i,g,a, -, -⟩:=yj4 (hi:=y) (lo:=x) (n:=m) (m:=n) aG hx;refine⟨i,g,a,?_⟩
 have e:(y*18446744073709551616+x) / 2^n=y*2^m+x / 2^n:=by rw[<-f,show y*(2^n*2^m)+x=2^n*(y*2^m)+x by rw[vf],JS c]
 rw[e];obtain⟨X,d⟩:=bx (y*2^m);obtain⟨L,b⟩:=bx (x / 2^n);rw[<-d,<-b] at a ⊢;omega
def w3 (h m l:Nat):Nat:=(h*18446744073709551616+m)*18446744073709551616+l
def yne {h m l n k:Nat} (c:n+k=64) (hl:l<18446744073709551616) (hm:m<18446744073709551616) (v:h<18446744073709551616):
 w3 h m l / 2^n=w3 (h / 2^n) (h*2^k % 18446744073709551616+m / 2^n) (m*2^k % 18446744073709551616+l / 2^n)/\w3 h m l % 2^n=l % 2^n:=by
 have b:=ybV c;have a:0<2^n:=fp bL;obtain⟨F,E,D, -⟩:=ybP (x:=l) (y:=m) c hl;obtain⟨z,b2,w, -⟩:=ybP (x:=m) (y:=h) c hm;have q:=yd2 (lo:=m) (n:=k) (m:=n) aG;have r:=yd2 (lo:=h) (n:=k) (m:=n) aG
 have s:m % 2^n*2^k<18446744073709551616:=by rw[<-b];exact jd (kk _ a) (fp bL)
 have t:h % 2^n*2^k<18446744073709551616:=by rw[<-b];exact jd (kk _ a) (fp bL)
 have i:w3 h m l=2^n*((h*18446744073709551616+m)*2^k)+l:=by unfold w3;rw[fM (2^n),fB,fM (2^k),b]
 constructor
 ·rw[i,JS a,iW,qV];unfold w3;obtain⟨M,d⟩:=bx (m*2^k);obtain⟨H,e⟩: ∃ M,M=h*2^k:=⟨_,rfl⟩;obtain⟨G,o⟩: ∃ M,M=m % 2^n*2^k:=⟨_,rfl⟩;obtain⟨I,j⟩: ∃ M,M=h % 2^n*2^k:=⟨_,rfl⟩;obtain⟨A,g⟩: ∃ M,M=m / 2^n:=⟨_,rfl⟩;obtain⟨B,f⟩: ∃ M,M=h / 2^n:=⟨_,rfl⟩;obtain⟨C,u⟩: ∃ M,M=l / 2^n:=⟨_,rfl⟩;rw[<-d,<-g,<-o] at q;rw[<-e,<-f,<-j] at r;rw[<-o] at s;rw[<-j] at t;rw[<-d,<-e,<-g,<-f,<-u];omega
 ·rw[i,yeu]
def ypG (h m l:Nat) (hl:l<18446744073709551616):w3 h m l / 18446744073709551616=w3 0 h m/\w3 h m l % 18446744073709551616=l:=by unfold w3;omega
def yus {l n:Nat} (hl:l<18446744073709551616) (hn:n<64):Go.bits BinOp.and IntKind.u64 (l:Int) (((2^n-1:Nat):Int))=((l % 2^n:Nat):Int):=by have a:2^n<=2^63:=hJ bL aG;rw[yem l _ hl aG,ybY]
def yvX {hi lo b:Nat} (g:hi<18446744073709551616) (hl:lo<18446744073709551616) (hb:b<18446744073709551616):
 hi*b / 18446744073709551616+(lo*b / 18446744073709551616+hi*b % 18446744073709551616) / 18446744073709551616<18446744073709551616/\
 (hi*18446744073709551616+lo)*b=w3 (hi*b / 18446744073709551616+(lo*b / 18446744073709551616+hi*b % 18446744073709551616) / 18446744073709551616) ((lo*b / 18446744073709551616+hi*b % 18446744073709551616) % 18446744073709551616) (lo*b % 18446744073709551616):=by
 have f:hi*b<=18446744073709551615*18446744073709551615:=Xf aG aG;have d:lo*b<=18446744073709551615*18446744073709551615:=Xf aG aG;have e:(hi*18446744073709551616+lo)*b=hi*b*18446744073709551616+lo*b:=by rw[iW,qV]
 rw[e];unfold w3;obtain⟨X,c⟩:=bx (hi*b);obtain⟨Y,a⟩: ∃ X,X=lo*b:=⟨_,rfl⟩;rw[<-c] at f ⊢;rw[<-a] at d ⊢;constructor<;>omega
def ywf {n L:Nat} (c:2^L<=n) (b:n<2^(L+1)):Na.bitLen n=L+1:=by
 have a:0<2^L:=fp bL;obtain⟨g,b2,f⟩:=rh (n:=n) aG
 have e:L<Na.bitLen n:=by
  rcases qt L (Na.bitLen n) with h|h
  ·exact h
  ·have:=hJ (show 0<2 by decide) h;omega
 have d:Na.bitLen n<=L+1:=by
  rcases qt (L+1) (Na.bitLen n) with h|h
  ·have:=hJ (show 0<2 by decide) (show L+1<=Na.bitLen n-1 by omega);omega
  ·exact h
 omega
def yoJ {hi lo k:Nat} (e:hi≠0) (hl:lo<2^k):Na.bitLen (hi*2^k+lo)=k+Na.bitLen hi:=by obtain⟨d,c,g⟩:=rh e;obtain⟨L,a⟩: ∃ L,Na.bitLen hi=L+1:=⟨Na.bitLen hi-1,by omega⟩;rw[a,va] at d;rw[a] at c;have f:=iS (2^k) d;have b:=iS (2^k) (show hi+1<=2^(L+1) from c);rw[iW,nW] at b;rw[<-Nat.pow_add] at f b;rw[ywf (n:=hi*2^k+lo) (L:=L+k) aG (by rw[show L+k+1=L+1+k by omega];omega),a];omega
def ynZ {hi lo:Nat} (a:hi≠0) (hl:lo<18446744073709551616):Na.bitLen (hi*18446744073709551616+lo)=64+Na.bitLen hi:=
 yoJ (k:=64) a hl
end Fl

def C2 (w:World) (b h l:Nat):Prop:=Cs w b [.int .u64 h,.int .u64 l]/\ ∀ o,w.frozen? ⟨b,o,none⟩=false
def C2.on {w w':World} {b h l:Nat} (c:C2 w b h l) (hb:Below w.heap.size w w'):C2 w' b h l:=
 ⟨c.1.on hb,fun o=>(hb.frozen (p:=⟨b,o,none⟩) c.1.1).trans (c.2 o)⟩
def C2.stored {w:World} {b h l:Nat} (c:C2 w b h l) (h' a:Nat):C2 (w.setCells b 0 [.int .u64 h',.int .u64 a]) b h' a:=
 ⟨c.1.stored _ rfl,fun o=>by rw[yb9];exact c.2 o⟩
def C2.low {w:World} {b h l:Nat} (c:C2 w b h l) (a:Nat):C2 (w.setCell ⟨b,1,none⟩ (.int .u64 a)) b h a:=by
 refine⟨⟨by have:=c.1.1;simpa using this,fun k d=>?_⟩,fun o=>by rw[qj];exact c.2 o⟩
 match k,d with
 |0,_=>exact(tt _ ⟨b,1,none⟩ ⟨b,0,none⟩ _ (by intro e;cases e)).trans (c.1.get 0 rfl)
 |1,_=>exact yE _ _ _ (c.1.get 1 rfl)
def C2.new (w:World) (h l:Nat):C2 (w.alloc (.cells #[.int .u64 h,.int .u64 l] 95)) w.heap.size h l:=
 ⟨Cs.new w [.int .u64 h,.int .u64 l] _,fun o=>by
  unfold World.frozen?;simp only[];rw[show(w.alloc (.cells #[.int .u64 h,.int .u64 l] 95)).heap[w.heap.size]? =some _ from My w _]
  simp⟩
def C2.drew {w:World} {b h l:Nat} (c:C2 w b h l):C2 w.drew b h l:=c.on (eN.drew)
def C3 (w:World) (b h m l:Nat):Prop:=Cs w b [.int .u64 h,.int .u64 m,.int .u64 l]/\ ∀ o,w.frozen? ⟨b,o,none⟩=false
def C3.on {w w':World} {b h m l:Nat} (c:C3 w b h m l) (hb:Below w.heap.size w w'):C3 w' b h m l:=
 ⟨c.1.on hb,fun o=>(hb.frozen (p:=⟨b,o,none⟩) c.1.1).trans (c.2 o)⟩
def C3.stored {w:World} {b h m l:Nat} (c:C3 w b h m l) (h' a d:Nat):C3 (w.setCells b 0 [.int .u64 h',.int .u64 a,.int .u64 d]) b h' a d:=
 ⟨c.1.stored _ rfl,fun o=>by rw[yb9];exact c.2 o⟩
def C3.new (w:World) (h m l:Nat):C3 (w.alloc (.cells #[.int .u64 h,.int .u64 m,.int .u64 l] 284)) w.heap.size h m l:=
 ⟨Cs.new w [.int .u64 h,.int .u64 m,.int .u64 l] _,fun o=>by
  unfold World.frozen?;simp only[];rw[show(w.alloc (.cells #[.int .u64 h,.int .u64 m,.int .u64 l] 284)).heap[w.heap.size]? =some _ from My w _]
  simp⟩
def C3.alloc {w:World} {b h m l:Nat} (c:C3 w b h m l) (o:Obj):C3 (w.alloc o) b h m l:=c.on (eN.alloc cm o)
def C3.drew {w:World} {b h m l:Nat} (c:C3 w b h m l):C3 w.drew b h m l:=c.on (eN.drew)
def C3.setOther {w:World} {b a h m l o:Nat} {u:Value} (c:C3 w b h m l) (aq:b≠a):C3 (w.setCell ⟨a,o,none⟩ u) b h m l:=
 ⟨⟨by have:=c.1.1;simpa using this,fun k d=>(tt _ ⟨a,o,none⟩ ⟨b,k,none⟩ _ ydc).trans (c.1.2 k d)⟩,fun o'=>by rw[qj];exact c.2 o'⟩
def C2.alloc {w:World} {b h l:Nat} (c:C2 w b h l) (o:Obj):C2 (w.alloc o) b h l:=c.on (eN.alloc cm o)
def C2.setOther {w:World} {b a h l o:Nat} {u:Value} (c:C2 w b h l) (aq:b≠a):C2 (w.setCell ⟨a,o,none⟩ u) b h l:=
 ⟨⟨by have:=c.1.1;simpa using this,fun k d=>(tt _ ⟨a,o,none⟩ ⟨b,k,none⟩ _ ydc).trans (c.1.2 k d)⟩,fun o'=>by rw[qj];exact c.2 o'⟩
def C2.ynG {w:World} {b h l:Nat} (c:C2 w b h l) (h' a:Nat):C2 ((w.setCell ⟨b,0,none⟩ (.int .u64 h')).setCell ⟨b,1,none⟩ (.int .u64 a)) b h' a:=c.stored h' a
def C2.new' {w:World} {b:Nat} (h l:Nat) (hb:b=w.heap.size):C2 (w.alloc (.cells #[.int .u64 h,.int .u64 l] 95)) b h l:=by rw[hb];exact C2.new w h l
def C2.new0 {w:World} {b:Nat} (hb:b=w.heap.size):C2 (w.alloc (.cells #[.int .u64 0,.int .u64 0] 95)) b 0 0:=by rw[hb];exact C2.new w 0 0
def C3.new0 {w:World} {b:Nat} (hb:b=w.heap.size):C3 (w.alloc (.cells #[.int .u64 0,.int .u64 0,.int .u64 0] 284)) b 0 0 0:=by rw[hb];exact C3.new w 0 0 0

namespace Fl
open Go
def yqJ {A d:Nat} (hd:d<4294967296):Go.bits BinOp.or IntKind.u64 ((A*2^32 % 18446744073709551616:Nat):Int) (d:Int)=(((A*4294967296+d) % 18446744073709551616:Nat):Int)/\
 (A*4294967296+d) / 18446744073709551616 % 18446744073709551616=A*2^32 / 18446744073709551616 % 18446744073709551616:=by
 have e:(2:Nat)^32=4294967296:=bL;rw[e];obtain⟨L,b⟩:=bx (A*4294967296 % 18446744073709551616);have c:L % 4294967296=0:=aG;have hl:L+d<18446744073709551616:=aG;have a:(A*4294967296+d) % 18446744073709551616=L+d:=aG;rw[<-b,a];refine⟨ygh (n:=32) (by rw[e];exact c) (by rw[e];exact hd) hl,by omega⟩
def yq5 {A d hi lo:Nat} (f:hi=A / 18446744073709551616 % 18446744073709551616) (hl:lo=A % 18446744073709551616) (hd:d<4294967296):
 (hi*18446744073709551616+lo)*2^32 / 18446744073709551616 % 18446744073709551616=(A*4294967296+d) / 18446744073709551616 % 18446744073709551616/\
 Go.bits BinOp.or IntKind.u64 (((hi*18446744073709551616+lo)*2^32 % 18446744073709551616:Nat):Int) (d:Int)=(((A*4294967296+d) % 18446744073709551616:Nat):Int):=by
 obtain⟨W,e⟩:=bx (hi*18446744073709551616+lo);obtain⟨c,b⟩:=yqJ (A:=W) hd;have a:W*2^32=W*4294967296:=rfl;rw[<-e,c,<-b,a];clear c b a;constructor
 ·omega
 ·exact dZ Int.ofNat aG
end Fl
end Go.Proofs.YtilbpmimoijfhaaGreatDoor
