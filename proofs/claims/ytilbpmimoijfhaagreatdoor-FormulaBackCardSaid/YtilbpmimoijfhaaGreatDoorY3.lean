/- Slices of uint32: what they read as; a block of the call's own that holds limbs. -/
import Derived.Test.YtilbpmimoijfhaaGreatDoorY2
namespace Go.Proofs.YtilbpmimoijfhaaGreatDoor
set_option linter.all false
set_option maxRecDepth 100000
set_option maxHeartbeats 16000000
open Go.RowKit Go.Proofs.Tryz
def u32s (l:List Nat):List Value:=l.map fun(x:Nat)=>Value.int .u32 (x:Int)
def A6 (l:List Nat):(u32s l).length =l.length:=by simp[u32s]
def ylV (l:List Nat): ∀ v ∈ u32s l,v.oneCell'=true:=fun v hv=>by obtain⟨x,_,rfl⟩:=List.mem_map.1 hv;rfl
def yds (l:List Nat) (k:Nat) (h:k<l.length):(u32s l)[k]? =some (.int .u32 (l[k]:Int)):=by simp[u32s,n9 h]
def yjI (g o k:Nat):(⟨g,o,none⟩:Addr).add k=⟨g,o+k,none⟩:=by
 unfold Addr.add;split
 ·rename_i e;subst e;rfl
 ·rfl
structure Sl (w:World) (a:Option Addr) (c:Nat) (l:List Nat):Prop where
 plain:0<l.length-> ∃ b o,a=some ⟨b,o,none⟩/\b<w.heap.size/\ ∀ k (h:k<l.length),w.cell? ⟨b,o+k,none⟩=some (.int .u32 (l[k]:Int))
 cap:l.length<=c
 ok:Na.OK l
def Sl.below {w w':World} {a:Option Addr} {c B:Nat} {l:List Nat} (h:Sl w a c l) (hb:Below B w w') (g: ∀ d,a=some d->d.block<B):Sl w' a c l where
 plain:=fun i=>by obtain⟨b,o,rfl,j,f⟩:=h.plain i;have m:b<B:=g _ rfl;exact⟨b,o,rfl,eR j hb.size,fun k e=>(hb.cell (p:=⟨b,o+k,none⟩) m).trans (f k e)⟩
 cap:=h.cap
 ok:=h.ok
def Sl.on {w w':World} {a:Option Addr} {c:Nat} {l:List Nat} (h:Sl w a c l) (hb:Below w.heap.size w w'):Sl w' a c l where
 plain:=fun g=>by obtain⟨b,o,rfl,d,f⟩:=h.plain g;exact⟨b,o,rfl,eR d hb.size,fun k e=>(hb.cell (p:=⟨b,o+k,none⟩) d).trans (f k e)⟩
 cap:=h.cap
 ok:=h.ok
def Sl.take {w:World} {a:Option Addr} {c:Nat} {l:List Nat} (h:Sl w a c l) (k:Nat):Sl w a c (l.take k) where
 plain:=fun f=>by
  rw[nn] at f;obtain⟨b,o,e,g,d⟩:=h.plain aG
  exact⟨b,o,e,g,fun i hi=>by
   rw[nn] at hi
   rw[ydz];exact d i aG⟩
 cap:=by rw[nn];have:=h.cap;omega
 ok:=Na.Au h.ok k
def Sl.cut {w:World} {a:Option Addr} {c:Nat} {l:List Nat} (h:Sl w a c l):Sl w a c (Na.cut l):=by rw[(Na.yC h.ok).2];exact h.take _
def Sl.nil (w:World) (a:Option Addr) (c:Nat):Sl w a c []:=⟨fun h=>absurd h cn,iH _,fun _ h=>by cases h⟩
def Sl.lt {w:World} {a:Option Addr} {c:Nat} {l:List Nat} (h:Sl w a c l) (k:Nat) (b:k<l.length):l[k]<4294967296:=h.ok _ (pK b)
def Sl.cells {w:World} {a:Option Addr} {c:Nat} {l:List Nat} (h:Sl w a c l) (f:0<l.length): ∃ d,a=some d/\ ∀ j v,(u32s l)[j]? =some v->w.cell? (d.add j)=some v:=by
 obtain⟨b,o,rfl,_,e⟩:=h.plain f;refine⟨_,rfl,fun j v hv=>?_⟩;have hj:j<l.length:=by have:=(o6.1 hv).1;rwa[A6] at this
 rw[yds l j hj] at hv;rw[yjI,e j hj,tJ hv]
def yhj {a:Type} (Z cs:List a) (h:Z.length=cs.length):splice Z 0 cs=cs:=by simp[splice,<-h]
def Blk (w:World) (g:Nat) (o:List Nat):Prop:=w.heap[g]? =some (.cells (u32s o).toArray 85 (0,0))
def Blk.lt {w:World} {g:Nat} {o:List Nat} (h:Blk w g o):g<w.heap.size:=(yX.1 h).1
def Blk.cell {w:World} {g:Nat} {o:List Nat} (h:Blk w g o) (k:Nat) (a:k<o.length):w.cell? ⟨g,k,none⟩=some (.int .u32 (o[k]:Int)):=by unfold World.cell?;simp only[];rw[show w.heap[g]? =_ from h];show(u32s o).toArray[k]? =_;rw[ykv,yds o k a]
def Blk.frozen {w:World} {g:Nat} {o:List Nat} (h:Blk w g o) (k:Nat):w.frozen? ⟨g,k,none⟩=false:=by unfold World.frozen?;simp only[];rw[show w.heap[g]? =_ from h];simp
def Blk.set {w:World} {g:Nat} {o:List Nat} (h:Blk w g o) (i x:Nat):Blk (w.setCell ⟨g,i,none⟩ (.int .u32 (x:Int))) g (o.set i x):=by have:=heap_setCell_same w g i (u32s o).toArray 85 (.int .u32 (x:Int)) h;unfold Blk;rw[this];congr 2;apply M1;simp[u32s,List.map_set]
def Blk.on {w w':World} {g:Nat} {o:List Nat} (h:Blk w g o) (hb:Below w.heap.size w w'):Blk w' g o:=(hb.block g h.lt).trans h
def Blk.below {w w':World} {g B:Nat} {o:List Nat} (h:Blk w g o) (hb:Below B w w') (hg:g<B):Blk w' g o:=(hb.block g hg).trans h
def Blk.sl {w:World} {g:Nat} {o:List Nat} (h:Blk w g o) (d:Na.OK o) {c:Nat} (b:o.length<=c):Sl w (some ⟨g,0,none⟩) c o where
 plain:=fun _=>⟨g,0,rfl,h.lt,fun k a=>by rw[iR];exact h.cell k a⟩
 cap:=b
 ok:=d
def Blk.made {w':World} {base g n:Nat} (h:w'.ownsRow base 85 1 (.slice (some ⟨g,0,none⟩) n n) n (madeCells #[Value.int .u32 0] n).toList):Blk w' g (List.replicate n 0):=by
 rcases h.2 with ⟨e,_⟩|⟨i,cap,cur,e,hb,hg,f,d,c,a⟩
 ·cases e
 ·simp only[Value.slice.injEq,vO,Addr.mk.injEq] at e;obtain⟨⟨rfl,_⟩,_,rfl⟩:=e;unfold Blk;rw[hg]
  have b:cur.toList=(madeCells #[Value.int .u32 0] n).toList :=by rw[<-a,n0 pp]
  congr 2;apply M1;rw[b];simp[u32s,madeCells,Value.cells,Nat.mod_one,List.map_const']
def Wz:(prog.info? 85).map (fun i=>(i.zero,i.size,i.bytes))=some (some (.int .u32 0),1,4):=cI
def Own (w:World) (B:Nat) (a:Option Addr) (n:Nat):Prop:=0<n-> ∃ b o,a=some ⟨b,o,none⟩/\B<=b/\ ∀ k,k<n->w.frozen? ⟨b,o+k,none⟩=false
def Own.nil (w:World) (B:Nat) (a:Option Addr):Own w B a 0:=fun h=>absurd h cn
def Blk.own {w:World} {g B n:Nat} {o:List Nat} (h:Blk w g o) (a:B<=g):Own w B (some ⟨g,0,none⟩) n:=fun _=>⟨g,0,rfl,a,fun k _=>h.frozen _⟩
def ln (q:List Nat × Int) (w:World) (e:Ending) (w':World):Prop:= ∃ a c,e= .returned (.tuple #[.slice a q.1.length c,.int .i64 q.2])/\Sl w' a c q.1/\Own w' w.heap.size a q.1.length/\Below w.heap.size w w'
def GivesB (l:List Nat) (w:World) (e:Ending) (w':World):Prop:= ∃ g,e= .returned (.slice (some ⟨g,0,none⟩) l.length l.length)/\w.heap.size<=g/\Blk w' g l/\Below w.heap.size w w'

def yq (a:Option Addr) (c:Nat) (l:List Nat) (w:World) (h:Sl w a c l) (hn:l.length<=1000000):
 Calls prog 217 #[.slice a l.length c] w (Ret0 (.int .i64 (Na.rt l)) w):=by
 go_enter func217,ntmps217
 go_wp2_with fail
 go_loop [3] (fun i=> ∃ k:Nat,k<=l.length/\i= .int .i64 k/\ ∀ j (hj:j<l.length),k<=j->l[j]=0) (fun i=>(intOf i).toNat)
 case atStart=>exact⟨l.length,cm,rfl,fun j hj f=>by omega⟩
 case round=>
  obtain⟨k,f,rfl,hz⟩:=hrel;have g:=aL hz;clear hz
  cases k with
  |zero=>
   have HR:=aL (Na.yda h.ok (k:=0) f g.out (fun r=>absurd r aG)).1
   go_wp2_with fail
   go_ret
   exact Ret0.of xJ
  |succ m=>
   obtain⟨b,o,rfl,hb,n⟩:=h.plain aG
   have c1:=n m aG
   obtain⟨x,hx⟩: ∃ x,l[m]'aG=x:=⟨_,rfl⟩
   rw[hx] at c1
   have q:=aL hx;clear hx n
   have s:decide ((0:Int)<(m:Int)+1)=true:=fv aG
   by_cases d:x=0
   ·subst d
    go_wp2_with fail
    go_round
    case rel=>
     refine⟨m,by omega,by go_num,fun j hj f=>?_⟩
     by_cases e:j=m
     ·subst e;exact q.out
     ·exact g.out j hj aG
    case measure=>simp[intOf]
   ·have HR:=aL (Na.yda h.ok (k:=m+1) f g.out (fun _ t=>by have:=q.out;simpa[this] using d)).1
    have u:((x:Int)==0)=false:=by simpa using d
    clear d
    go_wp2_with fail
    go_ret
    exact Ret0.of xJ
def sU (a:Option Addr) (c:Nat) (l:List Nat) (w:World) (h:Sl w a c l) (hn:l.length<=1000000):
 Calls prog 219 #[.slice a l.length c] w (Ret0 (.slice a (Na.cut l).length c) w):=by
 have b:=aL (yq a c l w h hn);have e:=(Na.yC h.ok).1;have d:=h.cap;go_enter func219,ntmps219
 go_wp2_with (first|(go_at_call 217;refine cY b.out ?_))
 go_ret
 exact Ret0.of rfl

def PT (a:Option Addr) (c:Nat) (l:List Nat) (w:World) (h:Sl w a c l) (hn:l.length<=1000000):
 Calls prog 179 #[.slice a l.length c] w (GivesB (Na.cut l) w):=by
 have v:=aL (yq a c l w h hn);have y:=(Na.yC h.ok).1;have b:=aL (show Na.rt l=(Na.cut l).length from rfl);obtain⟨i,hi,d,j,g⟩:=KI Wz;have u:=aL h.cut;go_enter func179,ntmps179
 go_wp2_with (first|(go_at_call 217;refine cY v.out ?_)|(at_make;refine yaf _ rfl _ _ 187 rfl w.heap.size 85 i (.int .u32 0) 1 underlying187 hi d j .i64 .i64 _ _ (Na.rt l) rfl rfl rfl rfl (by rw[g];omega) IX cm ?_))
 intro o f n;have m:Below w.heap.size w o:=eN.grown n cm (fun k e=>by cases e);have t:=aL (Blk.made f);clear f n g j d hi i;go_wp2_with (first|(refine wpList_copy_splice rfl _ _ 187 187 rfl 85 underlying187 cI _ _ _ _ _ _ rfl rfl w.heap.size 0 (u32s (List.replicate (Na.rt l) 0)) 85 t.out (u32s (Na.cut l)) (by rw[A6];show _=min _ _;have:=b.out;omega) (fun r=>⟨rfl,((u.out.on m).cells (by rwa[A6] at r))⟩) (by simp[A6,b.out]) (ylV _) w.heap.size w m cm ?_))
 intro x q s;go_wp2_with fail
 go_ret
 refine⟨w.heap.size,rfl,cm,?_,s⟩;have:=q.out;rw[yhj _ _ (by simp[A6,b.out])] at this;exact this

def GivesB.up {l:List Nat} {w a w':World} {e:Ending} (h:GivesB l a e w') (hb:Below w.heap.size w a):GivesB l w e w':=by obtain⟨g,rfl,hg,c,b⟩:=h;have:=hb.size;exact⟨g,rfl,by omega,c,hb.trans (b.mono aG)⟩
def yb3 (v:Nat) (hv:v<18446744073709551616) (w:World):
 Calls prog 140 #[.int .u64 v] w (GivesB (Na.cl v) w):=by
 have b:Na.OK [v % 4294967296,v / 4294967296]:=fun x hx=>by simp only[sC,yF,yR] at hx;show x<4294967296;omega
 have c:Na.cut [v % 4294967296,v / 4294967296]=Na.cl v:=by rw[Na.cut];congr 1;simp only[Na.val,Na.B];omega
 have a:Blk (w.alloc (Obj.cells #[Value.int IntKind.u32 ((v:Int) % 4294967296),Value.int IntKind.u32 ((v:Int) / 4294967296)] 85)) w.heap.size [v % 4294967296,v / 4294967296]:=by show(w.heap.push _)[w.heap.size]? =_;simp[u32s]
 have k:=aL (show Calls prog 179 #[.slice (some ⟨w.heap.size,0,none⟩) 2 2] (w.alloc (Obj.cells #[Value.int IntKind.u32 ((v:Int) % 4294967296),Value.int IntKind.u32 ((v:Int) / 4294967296)] 85)) (GivesB (Na.cl v) (w.alloc (Obj.cells #[Value.int IntKind.u32 ((v:Int) % 4294967296),Value.int IntKind.u32 ((v:Int) / 4294967296)] 85))) from c▸PT _ _ _ _ (a.sl b cm) cn);have i:Below w.heap.size w (w.alloc (Obj.cells #[Value.int IntKind.u32 ((v:Int) % 4294967296),Value.int IntKind.u32 ((v:Int) / 4294967296)] 85)):=ek;clear a b c;go_enter func140,ntmps140
 go_wp2_with (first|(go_at_call 179;refine cV k.out ?_;intro e l hg;obtain⟨g,rfl,d,f,j⟩:=GivesB.up hg i))
 go_ret
 exact⟨g,rfl,d,f,j⟩
def Ng (a:Option Addr) (c:Nat) (l:List Nat) (w:World) (h:Sl w a c l) (hn:l.length<=1000000):
 Calls prog 218 #[.slice a l.length c] w (Ret0 (.int .i64 (Na.bitLen (Na.val l):Nat)) w):=by
 have g:=aL (sU a c l w h hn);have i:=(Na.yC h.ok).1;have e:=h.cut;obtain⟨q,hq⟩:=bx (Na.cut l);have j:=Na.wd l;replace i:q.length<=l.length:=by rw[hq];exact i
 rw[<-hq] at e g j;have r:=aL hq;clear hq;obtain⟨n,d⟩:=bx (q.length);rw[<-d] at g
 cases n with
 |zero=>
  have hz:Na.val l=0:=j.1 (yM d.symm)
  have f:=aL (show Na.bitLen (Na.val l)=0 by rw[hz];rfl)
  clear d hz i e
  go_enter func218,ntmps218
  go_wp2_with (first|(go_at_call 219;refine cY g.out ?_))
  go_ret
  exact Ret0.of (by rw[f.out];rfl)
 |succ n=>
  have f:=aL (Na.yqT l q r.out n d.symm)
  obtain⟨b,o,rfl,hb,k⟩:=e.plain aG
  have c1:=k n aG
  have hx:=e.lt n aG
  obtain⟨x,m⟩: ∃ x,q[n]'aG=x:=⟨_,rfl⟩
  rw[m] at c1 hx f
  have u:Lib.bitLen x<=32:=yau x 32 aG hx
  have s:=aL (bits_Len32 (x:Int) w aG aG)
  have t:n<=1000000:=aG
  clear k m d e
  go_enter func218,ntmps218
  go_wp2_with (first|(go_at_call 219;refine cY g.out ?_)|(go_at_call 253;refine cY s.out ?_))
  go_ret
  exact Ret0.of (by rw[f.out];simp)

def Na.yfd {a b:List Nat} (h:Na.val a<Na.val b):Na.cmp a b= -1:=bT h
def Na.yg6 {a b:List Nat} (h:Na.val b<Na.val a):Na.cmp a b=1:=by rw[Na.cmp,bv aG,bT h]
def Na.ynw {a b:List Nat} (h:Na.val a=Na.val b):Na.cmp a b=0:=by rw[Na.cmp,bv aG,bv aG]
def yhs (a:Option Addr) (c:Nat) (l:List Nat) (b:Option Addr) (d:Nat) (m:List Nat) (w:World) (h:Sl w a c l) (h':Sl w b d m) (hn:l.length<=1000000) (hm:m.length<=1000000):
 Calls prog 282 #[.slice a l.length c,.slice b m.length d] w (RetB (.int .i64 (Na.cmp l m)) w):=by
 have H1:=aL (sU a c l w h hn);have H2:=aL (sU b d m w h' hm);have K:(Na.cut l).length <=1000000:=dE (Na.yC h.ok).1 hn;have H:(Na.cut m).length <=1000000:=dE (Na.yC h'.ok).1 hm;have u:=h.cut;have s:=h'.cut;have aW:(Na.cut l).length <(Na.cut m).length ->Na.val l<Na.val m:=Na.yc5 h.ok h'.ok;have uu:(Na.cut m).length <(Na.cut l).length ->Na.val m<Na.val l:=Na.yc5 h'.ok h.ok;have v1:=Na.tA (a:=l);have v2:=Na.tA (a:=m);obtain⟨q,hq⟩:=bx (Na.cut l);obtain⟨r,G⟩:=bx (Na.cut m);rw[<-hq] at H1 K u aW uu v1;rw[<-G] at H2 H s aW uu v2;clear hq G;obtain⟨n,iK⟩: ∃ n,q.length=n:=⟨_,rfl⟩;obtain⟨k,jK⟩: ∃ k,r.length=k:=⟨_,rfl⟩;rw[iK] at H1 K aW uu;rw[jK] at H2 H aW uu;by_cases S:n=k
 ·subst S;clear aW uu;have b0:((n:Int) != n)=false:=cn;obtain⟨HQ,HR,A,z⟩:=jv iK jK v1 v2;clear iK jK v1 v2;go_enter func282,ntmps282
  go_wp2_with (first|(go_at_call 219;refine cY H1.out ?_)|(go_at_call 219;refine cY H2.out ?_))
  go_loopw [23] (fun i wr=> ∃ j:Nat,j<=n/\i= .int .i64 j/\q.drop (n-j)=r.drop (n-j)/\Below w.heap.size w wr) (fun i _=>n-(intOf i).toNat)
  case atStart=>exact⟨0,iH _,rfl,by rw[zF,yas zQ,yas CZ],eN⟩
  case round=>
   obtain⟨j,hj,rfl,hd,I⟩:=hrel;obtain⟨C,f⟩:=dY hd I;clear hd I;by_cases aW:j<n
   ·obtain⟨t,rfl⟩: ∃ t,n=j+1+t:=⟨n-(j+1),by omega⟩;have M:j+1+t-j=t+1:=aG;have L:j+1+t-(j+1)=t:=aG;obtain⟨W,V,rfl,X,J⟩:=(u.on f.out).plain zQ;obtain⟨b2,U,rfl,hb2,N⟩:=(s.on f.out).plain CZ;have g:t<q.length:=zQ;have o:t<r.length:=CZ;have c1:=J t g;have c2:=N t o;have B:=aL (show q.drop (t+1)=r.drop (t+1) by rw[<-M];exact C.out);have E:=aL (Na.ykM u.ok s.ok (by have:=HQ.out;have:=HR.out;omega) t g o B.out);have D:=aL (Na.ykM s.ok u.ok (by have:=HQ.out;have:=HR.out;omega) t o g B.out.symm);have T:=aL L;clear M L;obtain⟨x,hx⟩: ∃ x,q[t]'g=x:=⟨_,rfl⟩;obtain⟨y,v⟩: ∃ y,r[t]'o=y:=⟨_,rfl⟩;have O:=aL (show x=y->q.drop (j+1+t-(j+1))=r.drop (j+1+t-(j+1)) from fun e=>by rw[T.out,xE g,xE o,hx,v,e,B.out]);rw[hx] at c1 E D;rw[v] at c2 E D;clear hx v J N C;by_cases P:x<y
    ·have e:=aL (Na.yfd (a:=l) (b:=m) (by rw[<-A.out,<-z.out];exact E.out P));go_wp2_with fail
     go_quiet (fail)
     go_wp2_with fail
     go_ret
     exact RetB.of Ix (oY f.out _)
    ·by_cases Q:y<x
     ·have e:=aL (Na.yg6 (a:=l) (b:=m) (by rw[<-A.out,<-z.out];exact D.out Q));go_wp2_with fail
      go_quiet (fail)
      go_wp2_with fail
      go_quiet (fail)
      go_wp2_with fail
      go_ret
      exact RetB.of Ix (oY (oY f.out _) _)
     ·obtain rfl:x=y:=aG;have F:=aL (O.out rfl);clear O;go_wp2_with fail
      go_quiet (fail)
      go_wp2_with fail
      go_quiet (fail)
      go_wp2_with fail
      go_roundw
      case rel=>exact⟨j+1,by omega,by go_num,F.out,oY f.out _⟩
      case measure=>simp[intOf];omega
   ·obtain rfl:j=n:=aG;have e:=aL (Na.ynw (a:=l) (b:=m) (by rw[<-A.out,<-z.out];have:=C.out;rw[C7,sc,sc] at this;rw[this]));go_wp2_with fail
    go_ret
    exact RetB.of Ix f.out
 ·by_cases R:n<k
  ·have e:=aL (Na.yfd (aW R));exact ylC
  ·have e:=aL (Na.yg6 (uu aG));exact ylC

structure Arg where
 a:Option Addr
 c:Nat
 l:List Nat
def Args (w:World) (g:Nat) (L:List Arg):Prop:= ∀ k (h:k<L.length),w.cell? ⟨g,k,none⟩=some (.slice L[k].a L[k].l.length L[k].c)/\Sl w L[k].a L[k].c L[k].l /\L[k].l.length <=1000000
def yhy (L:List Arg) (g:Nat) (w:World) (h:Args w g L) (hl:L.length<=2):
 Calls prog 216 #[.slice (some ⟨g,0,none⟩) L.length L.length] w (Ret0 (.bool (L.any fun x=>Na.big x.l)) w):=by
 have r:=aL h;clear h;go_enter func216,ntmps216
 go_wp2_with fail
 go_loop [7] (fun i=> ∃ k:Nat,k<=L.length/\i= .int .i64 k/\((L.take k).any fun x=>Na.big x.l)=false) (fun i=>L.length-(intOf i).toNat)
 case atStart=>exact⟨0,iH _,rfl,rfl⟩
 case round=>
  obtain⟨k,s,rfl,hb⟩:=hrel;have o:=aL hb;clear hb;by_cases j:k<L.length
  ·obtain⟨c1,m,n⟩:=r.out k j;have f:=aL (show((L.take (k+1)).any fun x=>Na.big x.l)=Na.big L[k].l by rw[yh j,List.any_append,o.out];simp);have d:=aL (show Na.big L[k].l =true->(L.any fun x=>Na.big x.l)=true from fun e=>List.any_eq_true.2 ⟨L[k],pK j,e⟩);obtain⟨x,hx⟩: ∃ x,L[k]=x:=⟨_,rfl⟩;rw[hx] at c1 m n f d;clear hx;have q:=aL (yq x.a x.c x.l w m n);by_cases b:256<Na.rt x.l
   ·have e:=aL (d.out (fv b));clear d f;go_wp2_with (first|(go_at_call 217;refine cY q.out ?_))
    go_ret
    exact Ret0.of Ix
   ·have e:=aL (f.out.trans (eL b));clear d f;replace b:Na.rt x.l<=256:=aG;go_wp2_with (first|(go_at_call 217;refine cY q.out ?_))
    go_round
    case rel=>exact⟨k+1,by omega,by go_num,e.out⟩
    case measure=>simp[intOf];omega
  ·have e:=aL (show(L.any fun x=>Na.big x.l)=false by have:=o.out;rwa[n0 aG] at this);go_wp2_with fail
   go_ret
   exact Ret0.of Ix
def FitsR (a:Option Addr) (l:List Nat) (w:World) (e:Ending) (w':World):Prop:=w=w'/\ ∃ b c,e= .returned (.tuple #[.slice b (Na.fits (Na.val l)).1.length c,.int .i64 (Na.fits (Na.val l)).2])/\Sl w b c (Na.fits (Na.val l)).1 /\(b=a∨(Na.fits (Na.val l)).1 =[])
def yhc (a:Option Addr) (c:Nat) (l:List Nat) (w:World) (h:Sl w a c l) (hn:l.length<=1000000):
 Calls prog 221 #[.slice a l.length c] w (FitsR a l w):=by
 have e:=aL (sU a c l w h hn);have f:=aL h.cut;by_cases b:256<(Na.cut l).length
 ·have d:=aL (show Na.fits (Na.val l)=([],2) from bT b);go_enter func221,ntmps221
  go_wp2_with (first|(go_at_call 219;refine cY e.out ?_))
  refine eB (v:= .tuple #[.slice none 0 0,.int .i64 2]) (by simp[results,results221,go_sem]) rfl ⟨rfl,none,0,?_,?_,Or.inr ?_⟩<;>rw[d.out]
  ·rfl
  ·exact Sl.nil _ _ _
 ·have d:=aL (show Na.fits (Na.val l)=(Na.cut l,0) from bv b);replace b:(Na.cut l).length <=256:=aG;go_enter func221,ntmps221
  go_wp2_with (first|(go_at_call 219;refine cY e.out ?_))
  refine eB (v:= .tuple #[.slice a (Na.cut l).length c,.int .i64 0]) (by simp[results,results221,go_sem]) rfl ⟨rfl,a,c,?_,?_,Or.inl rfl⟩<;>rw[d.out];exact f.out
def MQ (x y c:Nat) (hx:x<4294967296) (a:y<4294967296) (b:c<4294967296) (w:World):
 Calls prog 291 #[.int .u32 x,.int .u32 y,.int .u32 c] w (Ret0 (.tuple #[.int .u32 ((x+y+c) % 4294967296:Nat),.int .u32 ((x+y+c) / 4294967296:Nat)]) w):=by
 go_enter func291,ntmps291
 go_wp2
 refine eB (v:= .tuple #[.int .u32 ((x+y+c) % 4294967296:Nat),.int .u32 ((x+y+c) / 4294967296:Nat)]) (by simp[results,results291,go_sem]) rfl ⟨rfl,rfl⟩

def Na.yh5 {l m:List Nat} (h:(Na.big l || Na.big m)=false):(Na.cut l).length <=256/\(Na.cut m).length <=256:=by obtain⟨b,a⟩:=Ss.1 h;exact⟨Hv (xt b),Hv (xt a)⟩
def yvY {w:World} {a b:Option Addr} {c d:Nat} {l m:List Nat} (h:Sl w a c l) (h':Sl w b d m) (hn:l.length<=1000000) (hm:m.length<=1000000) (t:TypeId):
 Args (w.alloc (Obj.cells #[Value.slice a l.length c,Value.slice b m.length d] t)) w.heap.size [⟨a,c,l⟩,⟨b,d,m⟩]:=by
 have f:Below w.heap.size w (w.alloc (Obj.cells #[Value.slice a l.length c,Value.slice b m.length d] t)):=ek
 have e: ∀ k v,#[Value.slice a l.length c,Value.slice b m.length d][k]? =some v->(w.alloc (Obj.cells #[Value.slice a l.length c,Value.slice b m.length d] t)).cell? ⟨w.heap.size,k,none⟩=some v:=fun k v hv=>by show(match (w.heap.push _)[w.heap.size]? with|some (.cells c _ _)=>if(none:Option Nat).isSome then none else c[k]? | _=>none)=some v;simp[hv]
 intro k g
 match k,g with
 |0,_=>exact⟨e 0 _ rfl,h.on f,hn⟩
 |1,_=>exact⟨e 1 _ rfl,h'.on f,hm⟩
def zN {w:World} {a b:Option Addr} {c d:Nat} {l m:List Nat} (h:Sl w a c l) (h':Sl w b d m) (hn:l.length<=1000000) (hm:m.length<=1000000) (r:Bool) (f:(Na.big l || Na.big m)=r):
 Calls prog 216 #[.slice (some ⟨w.heap.size,0,none⟩) 2 2] (w.alloc (Obj.cells #[Value.slice a l.length c,Value.slice b m.length d] 187)) (Ret0 (.bool r) (w.alloc (Obj.cells #[Value.slice a l.length c,Value.slice b m.length d] 187))):=by
 have:=yhy [⟨a,c,l⟩,⟨b,d,m⟩] w.heap.size _ (yvY h h' hn hm 187) cm;have e:([⟨a,c,l⟩,⟨b,d,m⟩]:List Arg).any (fun x=>Na.big x.l)=r:=by rw[<-f];simp
 rw[e] at this;exact this
def FitsR.gives {g:Nat} {l:List Nat} {w a w':World} {e:Ending} (h:FitsR (some ⟨g,0,none⟩) l a e w') (hb:Below w.heap.size w a) (hg:w.heap.size<=g) (d:Blk a g l):ln (Na.fits (Na.val l)) w e w':=by
 obtain⟨rfl,i,f,rfl,c,b⟩:=h;refine⟨i,f,rfl,c,?_,hb⟩;rcases b with rfl|b
 ·exact d.own hg
 ·rw[b];exact Own.nil _ _ _
def ymh (n g:Nat) (P Q:List Nat) (w:World) (cv i:Value) (wr:World):Prop:= ∃ (k a:Nat) (o:List Nat),k<=n/\i= .int .i64 k/\cv= .int .u32 a/\a<=1/\Hid (Blk wr g o)/\Hid (o.length=n+1)/\Hid (Na.OK (o.take k))/\
 Hid (Na.val (o.take k)+Na.B^k*a=Na.val (P.take k)+Na.val (Q.take k))/\Hid (Below w.heap.size w wr)
def yqa (a:Option Addr) (c:Nat) (l:List Nat) (b:Option Addr) (d:Nat) (m:List Nat) (w:World) (h:Sl w a c l) (h':Sl w b d m) (hn:l.length<=1000000) (hm:m.length<=1000000) (e:(Na.big l || Na.big m)=true):
 Calls prog 281 #[.slice a l.length c,.slice b m.length d] w (ln (Na.add l m) w):=by
 have g:=aL (zN h h' hn hm true e);have f:=aL (show Na.add l m=([],2) from bT e);refine zV ?_;intro hB;clear e;go_enter func281,ntmps281
 go_wp2_with (first|(go_at_call 216;refine cY g.out ?_))
 refine eB (v:= .tuple #[.slice none 0 0,.int .i64 2]) (by simp[results,results281,go_sem]) rfl ⟨none,0,?_,?_,?_,hB⟩<;>rw[f.out]
 ·rfl
 ·exact Sl.nil _ _ _
 ·exact Own.nil _ _ _
def ypo (a:Option Addr) (c:Nat) (l:List Nat) (b:Option Addr) (d:Nat) (m:List Nat) (w:World) (h:Sl w a c l) (h':Sl w b d m) (hn:l.length<=1000000) (hm:m.length<=1000000) (hbig:(Na.big l || Na.big m)=false):
 Calls prog 281 #[.slice a l.length c,.slice b m.length d] w (ln (Na.add l m) w):=by
 have R:=aL (zN h h' hn hm false hbig);have E2:=aL (show Na.add l m=Na.fits (Na.val l+Na.val m) from bv (by simp[hbig]));refine zV ?_;intro hB;refine ygp ?_;intro H2 H3 eA gH S1 S2 V1 V2 q hq r hr;rw[<-hq] at H2 eA S1 V1;rw[<-hr] at H3 gH S2 V2;clear hq hr hbig;obtain⟨n,P⟩: ∃ n,q.length=n:=⟨_,rfl⟩;obtain⟨A,O⟩: ∃ k,r.length=k:=⟨_,rfl⟩;rw[P] at H2 eA;rw[O] at H3 gH;obtain⟨HQ,HR⟩:=dY P O;clear P O;obtain⟨K,hi,L,N,M⟩:=KI Wz;by_cases aW:n<A
 ·go_enter func281,ntmps281
  go_wp2_with (first|(go_at_call 216;refine cY R.out ?_)|(go_at_call 219;refine cY H2.out ?_)|(go_at_call 219;refine cY H3.out ?_)|(at_make;refine yaf _ rfl _ _ 187 rfl w.heap.size 85 K (.int .u32 0) 1 underlying187 hi L N .i64 .i64 _ _ (A+1) rfl rfl rfl rfl (by rw[M];omega) IX zE ?_))
  intro w1 fS bB;refine yfs ?_;intro bd hK IR
  have NA:w.heap.size+1<w1.heap.size:=by have:=hK.out.lt;simpa[i7] using this
  clear fS bB M N L hi K hB bd;go_wp2_with fail
  go_loopw [7,31] (ymh A (w.heap.size+1) r q w) (fun _ i _=>A-(intOf i).toNat)
  case atStart=>exact⟨0,0,_,iH _,rfl,rfl,by omega,hK,aL cn,aL (by intro x hx;cases hx),aL KT,IR⟩
  case round=>
   obtain⟨k,cc,o,W,rfl,rfl,X,cX,di,eG,C,bF⟩:=hrel;by_cases U:k<A
   ·have t:k<r.length:=CZ;obtain⟨Y,T,rfl,Z,H⟩:=(S2.on bF.out).plain aG;have c1:=H k t;have hx:=S2.lt k t;have D:=aL (Na.ra r k t);obtain⟨x,G⟩: ∃ x,r[k]'t=x:=⟨_,rfl⟩;rw[G] at c1 hx D;clear H G;have dq:k<o.length:=xB;have Q:=cX.out.cell k dq;have fo:=cX.out.frozen k;by_cases V:k<n
    ·have u:k<q.length:=zQ;obtain⟨b2,S,rfl,hb2,J⟩:=(S1.on bF.out).plain aG;have c2:=J k u;have F:=S1.lt k u;have z:=aL (Na.ra q k u);obtain⟨y,E⟩: ∃ x,q[k]'u=x:=⟨_,rfl⟩;rw[E] at c2 F z;clear J E;have j:=aL (MQ x y cc hx F aG wr);have HS:=aL (Na.L0 o r q k x y cc dq C.out D.out z.out);have g:=aL (Na.UC o k ((x+y+cc) % 4294967296) dq eG.out aG);have s:(x+y+cc) / 4294967296<=1:=aG;obtain⟨v,hv⟩:=bx ((x+y+cc) % 4294967296);obtain⟨B,f⟩: ∃ v,v=(x+y+cc) / 4294967296:=⟨_,rfl⟩;rw[<-hv,<-f] at HS j;rw[<-hv] at g;rw[<-f] at s;clear hv f;go_wp2_with (first|(go_at_call 291;refine cY j.out ?_))
     go_roundw
     case rel=>exact⟨k+1,B,o.set k v,by omega,by go_num,rfl,s,aL (cX.out.set k v),aL tG,g,HS,aL yD⟩
     case measure=>simp[intOf];omega
    ·have z:=aL (Na.XK q k zQ);have j:=aL (show Calls prog 291 #[.int .u32 x,.int .u32 0,.int .u32 cc] wr _ from MQ x 0 cc hx aG aG wr);have HS:=aL (Na.L0 o r q k x 0 cc dq C.out D.out z.out);have g:=aL (Na.UC o k ((x+0+cc) % 4294967296) dq eG.out aG);have s:(x+0+cc) / 4294967296<=1:=aG;obtain⟨v,hv⟩:=bx ((x+0+cc) % 4294967296);obtain⟨B,f⟩: ∃ v,v=(x+0+cc) / 4294967296:=⟨_,rfl⟩;rw[<-hv,<-f] at HS j;rw[<-hv] at g;rw[<-f] at s;clear hv f;go_wp2_with (first|(go_at_call 291;refine cY j.out ?_))
     go_roundw
     case rel=>exact⟨k+1,B,o.set k v,by omega,by go_num,rfl,s,aL (cX.out.set k v),aL tG,g,HS,aL yD⟩
     case measure=>simp[intOf];omega
   ·obtain rfl:k=A:=aG;have dq:k<o.length:=xB;have Q:=cX.out.cell k dq;have fo:=cX.out.frozen k;have aH:(o.set k cc).length =k+1:=by rw[yx,di.out]
    have hv:Na.val (o.set k cc)=Na.val l+Na.val m:=by have I:=Na.ER o k cc dq;rw[n0 (l:=o.set k cc) aG,C.out,n0 (l:=r) (by rw[HR.out];exact cm),n0 (l:=q) zQ,V1.out,V2.out] at I;rw[I];exact Ay _ _
    exact yg7
 ·go_enter func281,ntmps281
  go_wp2_with (first|(go_at_call 216;refine cY R.out ?_)|(go_at_call 219;refine cY H2.out ?_)|(go_at_call 219;refine cY H3.out ?_)|(at_make;refine yaf _ rfl _ _ 187 rfl w.heap.size 85 K (.int .u32 0) 1 underlying187 hi L N .i64 .i64 _ _ (n+1) rfl rfl rfl rfl (by rw[M];omega) IX zE ?_))
  intro w1 fS bB;refine yfs ?_;intro bd hK IR
  have NA:w.heap.size+1<w1.heap.size:=by have:=hK.out.lt;simpa[i7] using this
  clear fS bB M N L hi K hB bd;go_wp2_with fail
  go_loopw [7,31] (ymh n (w.heap.size+1) q r w) (fun _ i _=>n-(intOf i).toNat)
  case atStart=>exact⟨0,0,_,iH _,rfl,rfl,by omega,hK,aL cn,aL (by intro x hx;cases hx),aL KT,IR⟩
  case round=>
   obtain⟨k,cc,o,W,rfl,rfl,X,cX,di,eG,C,bF⟩:=hrel;by_cases U:k<n
   ·have t:k<q.length:=zQ;obtain⟨Y,T,rfl,Z,H⟩:=(S1.on bF.out).plain aG;have c1:=H k t;have hx:=S1.lt k t;have D:=aL (Na.ra q k t);obtain⟨x,G⟩: ∃ x,q[k]'t=x:=⟨_,rfl⟩;rw[G] at c1 hx D;clear H G;have dq:k<o.length:=xB;have Q:=cX.out.cell k dq;have fo:=cX.out.frozen k;by_cases V:k<A
    ·have u:k<r.length:=CZ;obtain⟨b2,S,rfl,hb2,J⟩:=(S2.on bF.out).plain aG;have c2:=J k u;have F:=S2.lt k u;have z:=aL (Na.ra r k u);obtain⟨y,E⟩: ∃ x,r[k]'u=x:=⟨_,rfl⟩;rw[E] at c2 F z;clear J E;have j:=aL (MQ x y cc hx F aG wr);have HS:=aL (Na.L0 o q r k x y cc dq C.out D.out z.out);have g:=aL (Na.UC o k ((x+y+cc) % 4294967296) dq eG.out aG);have s:(x+y+cc) / 4294967296<=1:=aG;obtain⟨v,hv⟩:=bx ((x+y+cc) % 4294967296);obtain⟨B,f⟩: ∃ v,v=(x+y+cc) / 4294967296:=⟨_,rfl⟩;rw[<-hv,<-f] at HS j;rw[<-hv] at g;rw[<-f] at s;clear hv f;go_wp2_with (first|(go_at_call 291;refine cY j.out ?_))
     go_roundw
     case rel=>exact⟨k+1,B,o.set k v,by omega,by go_num,rfl,s,aL (cX.out.set k v),aL tG,g,HS,aL yD⟩
     case measure=>simp[intOf];omega
    ·have z:=aL (Na.XK r k CZ);have j:=aL (show Calls prog 291 #[.int .u32 x,.int .u32 0,.int .u32 cc] wr _ from MQ x 0 cc hx aG aG wr);have HS:=aL (Na.L0 o q r k x 0 cc dq C.out D.out z.out);have g:=aL (Na.UC o k ((x+0+cc) % 4294967296) dq eG.out aG);have s:(x+0+cc) / 4294967296<=1:=aG;obtain⟨v,hv⟩:=bx ((x+0+cc) % 4294967296);obtain⟨B,f⟩: ∃ v,v=(x+0+cc) / 4294967296:=⟨_,rfl⟩;rw[<-hv,<-f] at HS j;rw[<-hv] at g;rw[<-f] at s;clear hv f;go_wp2_with (first|(go_at_call 291;refine cY j.out ?_))
     go_roundw
     case rel=>exact⟨k+1,B,o.set k v,by omega,by go_num,rfl,s,aL (cX.out.set k v),aL tG,g,HS,aL yD⟩
     case measure=>simp[intOf];omega
   ·obtain rfl:k=n:=aG;have dq:k<o.length:=xB;have Q:=cX.out.cell k dq;have fo:=cX.out.frozen k;have aH:(o.set k cc).length =k+1:=by rw[yx,di.out]
    have hv:Na.val (o.set k cc)=Na.val l+Na.val m:=by have I:=Na.ER o k cc dq;rw[n0 (l:=o.set k cc) aG,C.out,n0 (l:=q) (by rw[HQ.out];exact cm),n0 (l:=r) CZ,V1.out,V2.out] at I;rw[I]
    exact yg7
def ywR (a:Option Addr) (c:Nat) (l:List Nat) (b:Option Addr) (d:Nat) (m:List Nat) (w:World) (h:Sl w a c l) (h':Sl w b d m) (hn:l.length<=1000000) (hm:m.length<=1000000):
 Calls prog 281 #[.slice a l.length c,.slice b m.length d] w (ln (Na.add l m) w):=by
 cases e:(Na.big l || Na.big m) with
 |true=>exact yqa a c l b d m w h h' hn hm e
 |false=>exact ypo a c l b d m w h h' hn hm e



def Blk.drew {w:World} {g n:Nat} {o:List Nat} (h:Blk w g o):Blk (w.drewN n) g o:=h
def ymL (n a g:Nat) (q r:List Nat) (w:World) (b:Value) (wr:World):Prop:= ∃ (k:Nat) (o:List Nat),k<=n/\b= .int .i64 k/\Hid (Blk wr g o)/\Hid (o.length=n+a)/\Hid (Na.OK o)/\Hid (Na.val (o.take (k+a))=Na.val (q.take k)*Na.val r)/\Hid (Below w.heap.size w wr)
def ywp (n a g i x:Nat) (q r:List Nat) (w:World) (cv b:Value) (wr:World):Prop:= ∃ (j c:Nat) (o:List Nat),j<=a/\b= .int .i64 j/\cv= .int .u64 c/\c<4294967296/\Hid (Blk wr g o)/\Hid (o.length=n+a)/\Hid (Na.OK o)/\
 Hid (Na.val (o.take (i+a))+Na.B^(i+j)*c=Na.val (q.take i)*Na.val r+Na.B^i*x*Na.val (r.take j))/\Hid (Below w.heap.size w wr)
def ymC (a:Option Addr) (c:Nat) (l:List Nat) (b:Option Addr) (d:Nat) (m:List Nat) (w:World) (h:Sl w a c l) (h':Sl w b d m) (hn:l.length<=1000000) (hm:m.length<=1000000) (e:(Na.big l || Na.big m)=true):
 Calls prog 177 #[.slice a l.length c,.slice b m.length d] w (ln (Na.mul l m) w):=by
 have g:=aL (zN h h' hn hm true e);have f:=aL (show Na.mul l m=([],2) from bT e);refine zV ?_;intro hB;clear e;go_enter func177,ntmps177
 go_wp2_with (first|(go_at_call 216;refine cY g.out ?_))
 refine eB (v:= .tuple #[.slice none 0 0,.int .i64 2]) (by simp[results,results177,go_sem]) rfl ⟨none,0,?_,?_,?_,hB⟩<;>rw[f.out]
 ·rfl
 ·exact Sl.nil _ _ _
 ·exact Own.nil _ _ _
def yrt (a:Option Addr) (c:Nat) (l:List Nat) (b:Option Addr) (d:Nat) (m:List Nat) (w:World) (h:Sl w a c l) (h':Sl w b d m) (hn:l.length<=1000000) (hm:m.length<=1000000) (hbig:(Na.big l || Na.big m)=false):
 Calls prog 177 #[.slice a l.length c,.slice b m.length d] w (ln (Na.mul l m) w):=by
 have H1:=aL (zN h h' hn hm false hbig);have E2:=aL (show Na.mul l m=Na.fits (Na.val l*Na.val m) from bv (by simp[hbig]));refine zV ?_;intro hB;refine ygp ?_;intro H2 H3 eA gH S1 S2 V1 V2 q hq r hr;rw[<-hq] at H2 eA S1 V1;rw[<-hr] at H3 gH S2 V2;clear hq hr hbig;obtain⟨n,H⟩: ∃ n,q.length=n:=⟨_,rfl⟩;obtain⟨t,G⟩: ∃ k,r.length=k:=⟨_,rfl⟩;rw[H] at H2 eA;rw[G] at H3 gH;obtain⟨HQ,HR⟩:=dY H G;clear H G;obtain⟨M,hi,P,V,R⟩:=KI Wz;go_enter func177,ntmps177
 go_wp2_with (first|(go_at_call 216;refine cY H1.out ?_)|(go_at_call 219;refine cY H2.out ?_)|(go_at_call 219;refine cY H3.out ?_)|(at_make;refine yaf _ rfl _ _ 187 rfl w.heap.size 85 M (.int .u32 0) 1 underlying187 hi P V .i64 .i64 _ _ (n+t) rfl rfl rfl rfl (by rw[R];omega) IX zE ?_))
 intro w1 fS bB;refine yfs ?_;intro bd hK IR;clear fS bB R V P hi M hB bd;obtain⟨g,B2,hg⟩: ∃ g,g=w.heap.size+1/\w.heap.size<=g:=⟨_,rfl,by omega⟩;rw[<-B2] at hK ⊢;clear B2;go_wp2_with fail
 go_loopw [27] (ymL n t g q r w) (fun i _=>n-(intOf i).toNat)
 case atStart=>exact⟨0,_,iH _,rfl,hK,aL cn,aL (by intro x hx;rw[ybT hx];decide),aL (by rw[List.take_replicate,Na.ydA];simp[Na.val]),IR⟩
 case round=>
  obtain⟨i,o,WS,rfl,f,di,A,C,bF⟩:=hrel;by_cases aW:i<n
  ·have D:i<q.length:=zQ;have hx:=S1.lt i D;have Z:=aL (Na.ra q i D);obtain⟨x,J⟩: ∃ x,q[i]'D=x:=⟨_,rfl⟩;rw[J] at hx Z;have Zc:=aL J;clear J;go_wp2_with fail
   go_loopw [8,32] (ywp n t g i x q r w) (fun _ j _=>t-(intOf j).toNat)
   case atStart=>exact⟨0,0,o,iH _,rfl,rfl,by omega,f,di,A,aL (by rw[C.out];simp[Na.val]),bF⟩
   case round=>
    clear f di A C bF;obtain⟨j,u,s,hjk,rfl,rfl,Q,f,di,A,C,bF⟩:=hrel;by_cases jj:j<t
    ·have E:j<r.length:=CZ;obtain⟨b1,o1,rfl,aw,S⟩:=(S1.on bF.out).plain aG;have c1:=S i D;rw[Zc.out] at c1;obtain⟨b2,o3,rfl,hb2,T⟩:=(S2.on bF.out).plain aG;have c2:=T j E;have O:=S2.lt j E;have Y:=aL (Na.ra r j E);obtain⟨y,N⟩: ∃ x,r[j]'E=x:=⟨_,rfl⟩;rw[N] at c2 O Y;clear S T N;have B:i+j<s.length:=xB;have U:=f.out.cell (i+j) B;have fo:=f.out.frozen (i+j);have hz:s[i+j]<4294967296:=A.out _ (pK B);obtain⟨z,L⟩: ∃ x,s[i+j]'B=x:=⟨_,rfl⟩;rw[L] at U hz;obtain⟨ig,mM⟩:=Na.ye1 x y z u hx O hz Q;have F:=aL (Na.yrg s (i+t) i j x y z u _ _ _ aG B L C.out Y.out);clear L;obtain⟨p,I⟩:=bx (x*y);rw[<-I] at ig mM F;have Ep:(x:Int)*(y:Int)=(p:Int):=by rw[I];simp
     have iz:(p+z+u) / 4294967296<4294967296:=aG;clear I;go_wp2_with fail
     go_quiet (fail)
     go_wp2_with fail
     go_roundw
     case rel=>exact⟨j+1,(p+z+u) / 4294967296,s.set (i+j) ((p+z+u) % 4294967296),by omega,by go_num,by go_num,iz,aL (f.out.drew.set _ _),aL tG,aL (Na.wa A.out _ _ aG),F,aL yD⟩
     case measure=>simp[intOf];omega
    ·obtain rfl:j=t:=aG;have B:i+j<s.length:=xB;have U:=f.out.cell (i+j) B;have fo:=f.out.frozen (i+j)
     have F:=aL (show Na.val ((s.set (i+j) u).take (i+1+j))=Na.val (q.take (i+1))*Na.val r by
      rw[show i+1+j=i+j+1 by omega,Na.ER s _ u B,C.out,n0 (l:=r) (by rw[HR.out];exact cm)]
      exact Na.yts q r i x Z.out)
     go_wp2_with fail
     go_roundw
     case rel=>exact⟨i+1,s.set (i+j) u,by omega,by go_num,aL (f.out.set _ _),aL tG,aL (Na.wa A.out _ _ Q),F,aL yD⟩
     case measure=>simp[intOf];omega
  ·obtain rfl:i=n:=aG
   have hv:Na.val o=Na.val l*Na.val m:=by have:=C.out;rwa[n0 (by rw[di.out];exact cm),n0 (by rw[HQ.out];exact cm),V1.out,V2.out] at this
   have K:=yhc (some ⟨g,0,none⟩) (i+t) o wr (f.out.sl A.out (by rw[di.out];exact cm)) (by rw[di.out];omega);rw[di.out] at K;have HG:=aL (fun e w' (NM:FitsR (some ⟨g,0,none⟩) o wr e w')=>(by have:=NM.gives bF.out hg f.out;rwa[hv,<-E2.out] at this:ln (Na.mul l m) w e w'));have JQ:=aL K;clear hv K;go_wp2_with (first|(go_at_call 221;refine cV JQ.out ?_;intro e w' hg;obtain⟨X,W,rfl,hs,ho,hb⟩:=HG.out e w' hg))
   refine eB (v:= .tuple #[.slice X (Na.mul l m).1.length W,.int .i64 (Na.mul l m).2]) (by simp[results,results177,go_sem]) rfl ⟨X,W,rfl,hs,ho,hb⟩
def ycx (a:Option Addr) (c:Nat) (l:List Nat) (b:Option Addr) (d:Nat) (m:List Nat) (w:World) (h:Sl w a c l) (h':Sl w b d m) (hn:l.length<=1000000) (hm:m.length<=1000000):
 Calls prog 177 #[.slice a l.length c,.slice b m.length d] w (ln (Na.mul l m) w):=by
 cases e:(Na.big l || Na.big m) with
 |true=>exact ymC a c l b d m w h h' hn hm e
 |false=>exact yrt a c l b d m w h h' hn hm e

def ytz (N d n g L:Nat) (w:World) (rv a:Value) (wr:World):Prop:= ∃ (j r:Nat) (o:List Nat),j<=n/\a= .int .i64 j/\rv= .int .u64 r/\r<d/\Hid (Blk wr g o)/\Hid (o.length=L)/\Hid (Na.OK o)/\
 Hid (N+d*Na.val (o.take (n-j))=Na.val (o.take (n-j))+Na.B^(n-j)*r+d*Na.val (o.take n))/\Hid (Below g w wr)
def yhf (g n c d:Nat) (o:List Nat) (w:World) (hb:Blk w g o) (M:Na.OK o) (hn:n<=o.length) (Ko:n<=1000000) (S:0<d) (hd:d<4294967296):
 Calls prog 222 #[.slice (some ⟨g,0,none⟩) n c,.int .u32 d] w (fun e w'=>e= .returned (.int .u32 (Na.val (o.take n) % d:Nat))/\Below g w w'/\ ∃ o',Blk w' g o'/\o'.length=o.length/\Na.OK o'/\Na.val (o'.take n)=Na.val (o.take n) / d):=by
 obtain⟨N,q⟩:=bx (Na.val (o.take n));obtain⟨L,b⟩:=bx (o.length);rw[<-q,<-b];have Q:=aL (show N+d*Na.val (o.take n)=Na.val (o.take n)+Na.B^n*0+d*Na.val (o.take n) by rw[q];simp);obtain⟨I,F,P⟩:=iJ hb M b;have X:=aL (b▸hn);clear q b hb M hn;go_enter func222,ntmps222
 go_wp2_with fail
 go_loopw [5,11] (ytz N d n g L w) (fun _ i _=>n-(intOf i).toNat)
 case atStart=>exact⟨0,0,o,iH _,rfl,rfl,S,I,aL P.out.symm,F,Q,aL eN⟩
 case round=>
  clear Q I F P;obtain⟨j,r,a,hj,rfl,rfl,H,l,di,y,O,bF⟩:=hrel;by_cases aW:j<n
  ·obtain⟨t,rfl⟩: ∃ t,n=j+1+t:=⟨n-(j+1),by omega⟩;have K:j+1+t-j=t+1:=aG;have J:j+1+t-(j+1)=t:=aG;have k:t<a.length:=by have:=di.out;have:=X.out;omega
   have W:=l.out.cell t k;have fo:=l.out.frozen t;have hz:a[t]<4294967296:=y.out _ (pK k);obtain⟨z,D⟩: ∃ x,a[t]'k=x:=⟨_,rfl⟩;rw[D] at W hz;have C:=aL (Na.yq0 N d a (j+1+t) t r z aG k D (by rw[<-K];exact O.out));have m:=Na.yq7 r z d H hz;have A:(r*4294967296+z) % d<d:=kk _ S;have u:=Na.ybZ r z aG hz;have U:r*4294967296+z<18446744073709551616:=aG;obtain⟨s,G⟩:=bx (r*4294967296+z);rw[<-G] at C m A u U;have Y:=aL J;have Z:bits BinOp.or IntKind.u64 ((r:Int)*4294967296) (z:Int)=(s:Int):=by rw[<-u];simp
   have NQ:((d:Int)==0)=false:=pp;obtain⟨v,hv⟩:=bx (s / d);obtain⟨E,f⟩: ∃ v,v=s % d:=⟨_,rfl⟩;rw[<-hv,<-f] at C;rw[<-hv] at m;rw[<-f] at A;have V:(s:Int) / (d:Int)=(v:Int):=by rw[hv];simp
   have T:(s:Int) % (d:Int)=(E:Int):=by rw[f];simp
   clear D G u K J hv f;go_wp2_with fail
   go_region
   go_wp2_with fail
   go_roundw
   case rel=>exact⟨j+1,E,a.set t v,by omega,by go_num,by rw[T],A,aL (l.out.set _ _:Blk _ _ _),aL tG,aL (Na.wa y.out _ _ m),aL (by rw[Y.out];exact C.out),aL yD⟩
   case measure=>simp[intOf];omega
  ·obtain rfl:j=n:=aG;have R:=aL (Na.ynL N d (Na.val (a.take j)) r H (by have:=O.out;simpa[Na.val] using this));go_wp2_with fail
   go_ret
   exact⟨by rw[<-R.out.2];rfl,bF.out,a,l.out,di.out,y.out,R.out.1⟩

section
def Ic (q:List Nat × List Nat × Int) (w:World) (e:Ending) (w':World):Prop:= ∃ a c f g,e= .returned (.tuple #[.slice a q.1.length c,.slice f q.2.1.length g,.int .i64 q.2.2])/\
 Sl w' a c q.1/\Own w' w.heap.size a q.1.length/\Sl w' f g q.2.1/\Own w' w.heap.size f q.2.1.length/\Below w.heap.size w w'
section
variable (a:Option Addr) (c:Nat) (l:List Nat) (b:Option Addr) (d:Nat) (m:List Nat) (w:World) (h:Sl w a c l) (h':Sl w b d m) (hn:l.length<=1000000) (hm:m.length<=1000000)
include h h' hn hm
theorem yqf (e:(Na.big l || Na.big m)=true):Calls prog 266 #[.slice a l.length c,.slice b m.length d] w (Ic (Na.sW l m) w):=by
 have g:=aL (zN h h' hn hm true e);have f:=aL (show Na.sW l m=([],[],2) from bT e);refine zV ?_;intro hB;clear e;go_enter func266,ntmps266
 go_wp2_with (first|(go_at_call 216;refine cY g.out ?_))
 refine eB (v:= .tuple #[.slice none 0 0,.slice none 0 0,.int .i64 2]) Wm rfl ⟨none,0,none,0,?_,?_,?_,?_,?_,hB⟩<;>rw[f.out]
 ·rfl
 ·exact Sl.nil _ _ _
 ·exact Own.nil _ _ _
 ·exact Sl.nil _ _ _
 ·exact Own.nil _ _ _
theorem yt8 (e:(Na.big l || Na.big m)=false) (hz:Na.val m=0):Calls prog 266 #[.slice a l.length c,.slice b m.length d] w (Ic (Na.sW l m) w):=by
 have n:=aL (zN h h' hn hm false e);have j:=aL (show Na.sW l m=([],[],10) by rw[Na.sW,e,bv cn,bT hz]);refine zV ?_;intro hB;have g:Na.rt m=0:=by rw[Na.rt,(Na.wd m).2 hz];rfl
 have f:=yq b d m _ (h'.on hB) hm;rw[g] at f;have i:=aL (show Calls prog 217 #[.slice b m.length d] (w.alloc (Obj.cells #[Value.slice a l.length c,Value.slice b m.length d] 187)) (Ret0 (.int .i64 0) (w.alloc (Obj.cells #[Value.slice a l.length c,Value.slice b m.length d] 187))) from f);clear e f g;go_enter func266,ntmps266
 go_wp2_with (first|(go_at_call 216;refine cY n.out ?_)|(go_at_call 217;refine cY i.out ?_))
 refine eB (v:= .tuple #[.slice none 0 0,.slice none 0 0,.int .i64 10]) Wm rfl ⟨none,0,none,0,?_,?_,?_,?_,?_,hB⟩<;>rw[j.out]
 ·rfl
 ·exact Sl.nil _ _ _
 ·exact Own.nil _ _ _
 ·exact Sl.nil _ _ _
 ·exact Own.nil _ _ _
theorem yrx (f:(Na.big l || Na.big m)=false) (i:Na.val l<Na.val m):Calls prog 266 #[.slice a l.length c,.slice b m.length d] w (Ic (Na.sW l m) w):=by
 have E:=aL (zN h h' hn hm false f);have A:=aL (show Na.sW l m=([],Na.cut l,0) by rw[Na.sW,f,bv cn,bv aG,t6 i,o0 i,Na.rY];rfl);refine zV ?_;intro hB;have j:Na.rt m≠0:=fun e=>by have:=(Na.wd m).1 (yM e);omega
 have o:=yq b d m _ (h'.on hB) hm;obtain⟨u,q⟩: ∃ x,x=Na.rt m:=⟨_,rfl⟩;rw[<-q] at o j;have F:((u:Int)==0)=false:=by simpa using j
 have y:=aL o;have n:=yhs a c l b d m _ (h.on hB) (h'.on hB) hn hm;rw[Na.yfd i] at n;have C:=aL n;have D:=aL (fun wr (hb:Below w.heap.size w wr)=>PT a c l wr (h.on hb) hn);clear f o j n i q;go_enter func266,ntmps266
 go_wp2_with (first|(go_at_call 216;refine cY E.out ?_)|(go_at_call 217;refine cY y.out ?_)|(go_at_call 282;refine cp C.out ?_;intro t hb2;have s:Below w.heap.size w t:=hB.trans (hb2.mono zE))|(go_at_call 179;refine cV (D.out _ s) ?_;intro e w3 hg;obtain⟨g,rfl,z,r,B⟩:=GivesB.up hg s))
 refine eB (v:= .tuple #[.slice none 0 0,.slice (some ⟨g,0,none⟩) (Na.cut l).length (Na.cut l).length,.int .i64 0]) Wm rfl ⟨none,0,some ⟨g,0,none⟩,(Na.cut l).length,?_,?_,?_,?_,?_,B⟩<;>rw[A.out]
 ·rfl
 ·exact Sl.nil _ _ _
 ·exact Own.nil _ _ _
 ·exact r.sl (Na.X0 l) cm
 ·exact r.own z
theorem yoi (f:(Na.big l || Na.big m)=false) (mp: ¬ Na.val l<Na.val m) (s:Na.rt m=1):Calls prog 266 #[.slice a l.length c,.slice b m.length d] w (Ic (Na.sW l m) w):=by
 have H1:=aL (zN h h' hn hm false f);have D:=h'.cut;have q:0<(Na.cut m).length :=by show 0<Na.rt m;omega
 have A:(Na.cut m).length =1:=s;obtain⟨dv,t⟩: ∃ x,x=(Na.cut m)[0]:=⟨_,rfl⟩
 have V:Na.cut m=[dv]:=by
  rw[t];apply List.ext_getElem
  ·simpa using A
  ·intro i hi Z;have:i=0:=by simp at Z;omega
   subst this;rfl
 have E:Na.val m=dv:=by rw[<-Na.tA,V];simp[Na.val]
 have Cb:dv<4294967296:=by rw[t];exact D.lt 0 q
 have EC:dv≠0:=by intro e;have:=(Na.wd m).2 (by rw[E,e]);rw[this] at q;simp at q
 have R:=aL (show Na.sW l m=(Na.cl (Na.val l / dv),Na.cl (Na.val l % dv),0) by rw[Na.sW,f,bv cn,bv aG,E]);refine zV ?_;intro hB;have G:=yq b d m _ (h'.on hB) hm;rw[s] at G;have qa:=aL (show Calls prog 217 #[.slice b m.length d] (w.alloc (Obj.cells #[Value.slice a l.length c,Value.slice b m.length d] 187)) (Ret0 (.int .i64 1) (w.alloc (Obj.cells #[Value.slice a l.length c,Value.slice b m.length d] 187))) from G);refine yl5 ?_;intro HC r0 jf dH;rw[<-jf] at HC;have JU:=aL HC;have H3:=aL (fun wr (hb:Below w.heap.size w wr)=>PT a c l wr (h.on hb) hn);have H4:=aL (fun wr (hb:Below w.heap.size w wr)=>A▸sU b d m wr (h'.on hb) hm);obtain⟨B,y,rfl,bQ,Q⟩:=D.plain q;have c1:w.cell? ⟨B,y,none⟩=some (.int .u32 (dv:Int)):=by have:=Q 0 q;rw[<-t] at this;exact this
 have aH:(Na.cut l).length <=1000000:=dE (Na.yC h.ok).1 hn;obtain⟨n,z⟩: ∃ x,x=Na.val l % dv:=⟨_,rfl⟩;obtain⟨o,u⟩: ∃ x,x=Na.val l / dv:=⟨_,rfl⟩;have su:n<4294967296:=by have:=kk (Na.val l) (show 0<dv by omega);omega
 have HO:=aL (fun w=>yb3 n aG w)
 have W: ∀ g w,Blk w g (Na.cut l)->Calls prog 222 #[.slice (some ⟨g,0,none⟩) (Na.cut l).length (Na.cut l).length,.int .u32 dv] w
  (fun e w'=>e= .returned (.int .u32 n)/\Below g w w'/\ ∃ o',Blk w' g o'/\o'.length=(Na.cut l).length /\Na.OK o'/\Na.val o'=o):=fun g w hb=>
  (yhf g (Na.cut l).length (Na.cut l).length dv (Na.cut l) w hb (Na.X0 l) cm aH aG Cb).mono fun e w' ⟨s,h2,o',h3,h4,h5,M⟩=>
   ⟨by rw[s,zD,Na.tA,z],h2,o',h3,h4,h5,by rw[n0 aG,zD,Na.tA] at M;rw[M,u]⟩
 have Zs:=aL W;rw[<-z,<-u] at R;clear f G HC mp s q A t V E jf D Q z u W
 have qL:=aL (fun g j o' (hk:Blk j g o') (hl:o'.length=(Na.cut l).length) (cK:Na.OK o') (hv:Na.val o'=o)=>
  (by
   have L:=sU (some ⟨g,0,none⟩) (Na.cut l).length o' j (hk.sl cK aG) aG;rw[hl,show Na.cut o'=Na.cl o by rw[Na.cut,hv]] at L
   exact L:Calls prog 219 #[.slice (some ⟨g,0,none⟩) (Na.cut l).length (Na.cut l).length] j (Ret0 (.slice (some ⟨g,0,none⟩) (Na.cl o).length (Na.cut l).length) j)))
 go_enter func266,ntmps266
 go_wp2_with (first|(go_at_call 216;refine cY H1.out ?_)|(go_at_call 217;refine cY qa.out ?_)|(go_at_call 282;refine cp JU.out ?_;intro Y hb2;have C:Below w.heap.size w Y:=hB.trans (hb2.mono zE))|(go_at_call 219;refine cY (H4.out _ C) ?_)|(go_at_call 179;refine cV (H3.out _ C) ?_;intro e w3 hg;obtain⟨g,rfl,J,K,U⟩:=GivesB.up hg C;have c3:w3.cell? ⟨B,y,none⟩=some (.int .u32 (dv:Int)):=(U.cell (p:=⟨B,y,none⟩) bQ).trans c1;have Ql:=aL K;clear K hg)|(go_at_call 222;refine cV (Zs.out g _ Ql.out) ?_;rintro e w4 ⟨rfl,cD,o',F,I,X,H⟩;have T:Below w.heap.size w w4:=U.trans (cD.mono J);have H5:=aL (qL.out g w4 o' F I X H);obtain⟨DB,Qj,ZY⟩:=iJ H I F;clear H I F)|(go_at_call 219;refine cY H5.out ?_)|(go_at_call 140;refine cV (HO.out _) ?_;rintro e j ⟨N,rfl,xx,O,S⟩))
 have ii:=T.size;have P:=ZY.out.on S;have hcut:Na.cut o'=Na.cl o:=by rw[Na.cut,DB.out]
 refine eB (v:= .tuple #[.slice (some ⟨g,0,none⟩) (Na.cl o).length (Na.cut l).length,.slice (some ⟨N,0,none⟩) (Na.cl n).length (Na.cl n).length,.int .i64 0]) Wm rfl
  ⟨some ⟨g,0,none⟩,(Na.cut l).length,some ⟨N,0,none⟩,(Na.cl n).length,?_,?_,?_,?_,?_,T.trans (S.mono aG)⟩<;>rw[R.out]
 ·have:=(P.sl X (by rw[Qj.out];exact cm):Sl j (some ⟨g,0,none⟩) (Na.cut l).length o').cut;rw[hcut] at this;exact this
 ·exact P.own J
 ·exact O.sl (Na.zh _) cm
 ·exact O.own aG
end
end

def ytX (b n:Nat) (w:World) (d e:Value) (wr:World):Prop:= ∃ (k:Nat) (a:Option Addr) (c:Nat),k<=n/\e= .int .i64 k/\d= .slice a (Na.cl (b^k)).length c/\(Na.cl (b^k)).length <=256/\Hid (Sl wr a c (Na.cl (b^k)))/\Hid (Own wr w.heap.size a (Na.cl (b^k)).length)/\Hid (Below w.heap.size w wr)
def Na.DZ:Na.cl 1=[1]:=by rw[Na.DC bL];simp[Na.B,Na.rY]
def ycP (w:World):Blk (w.alloc (Obj.cells #[Value.int IntKind.u32 1] 85)) w.heap.size [1]:=by show(w.heap.push _)[w.heap.size]? =_;simp[u32s]
def yn8 (b n:Int) (w:World) (h:b<0∨1000000<b∨n<0) (hb: -9223372036854775808<=b/\b<=9223372036854775807) (hn: -9223372036854775808<=n/\n<=9223372036854775807):
 Calls prog 176 #[.int .i64 b,.int .i64 n] w (ln (Na.pow b n) w):=by
 have c:=aL (show Na.pow b n=([],1) from bT h)
 have a:ln (Na.pow b n) w (.returned (.tuple #[.slice none 0 0,.int .i64 1])) w:=by rw[c.out];exact⟨none,0,rfl,Sl.nil _ _ _,Own.nil _ _ _,eN⟩
 have HE:=aL a;clear a;by_cases f:b<0
 ·clear h;exact yeO
 ·by_cases e:1000000<b
  ·clear h;exact yeO
  ·have d:n<0:=aG;clear h;exact yeO
def yqZ (n:Nat) (w:World) (c:0<n) (hn:n<=9223372036854775807):Calls prog 176 #[.int .i64 0,.int .i64 n] w (ln (Na.pow 0 n) w):=by
 have b:=aL (show Na.pow 0 n=([],0) by rw[Na.pow,bv aG,bT ⟨rfl,by omega⟩]);have a:Below w.heap.size w (w.alloc (Obj.cells #[Value.int IntKind.u32 1] 85)):=ek;go_enter func176,ntmps176
 go_wp2
 refine eB (v:= .tuple #[.slice none 0 0,.int .i64 0]) WO rfl (by rw[b.out];exact⟨none,0,rfl,Sl.nil _ _ _,Own.nil _ _ _,a⟩)
def yuv (b n:Nat) (w:World) (h:b=1∨b=0/\n=0) (hn:n<=9223372036854775807):Calls prog 176 #[.int .i64 b,.int .i64 n] w (ln (Na.pow b n) w):=by
 have a:b^n=1:=by rcases h with rfl|⟨rfl,rfl⟩<;>simp
 have d:=aL (show Na.pow b n=([1],0) by rw[Na.pow,bv aG,bv aG,jJ,jJ,a,Na.fits,Na.DZ];rfl);have c:Below w.heap.size w (w.alloc (Obj.cells #[Value.int IntKind.u32 1] 85)):=ek
 have e:ln (Na.pow b n) w (.returned (.tuple #[.slice (some ⟨w.heap.size,0,none⟩) 1 1,.int .i64 0])) (w.alloc (Obj.cells #[Value.int IntKind.u32 1] 85)):=by rw[d.out];exact⟨some ⟨w.heap.size,0,none⟩,1,rfl,(ycP w).sl (fun x hx=>by rw[SY.1 hx];decide) cm,(ycP w).own cm,c⟩
 have f:=aL e;clear e a d c;rcases h with rfl|⟨rfl,rfl⟩
 all_goals(
  go_enter func176,ntmps176
  go_wp2
  refine eB (v:= .tuple #[.slice (some ⟨w.heap.size,0,none⟩) 1 1,.int .i64 0]) WO rfl f.out)
def ypX (b n:Nat) (w:World) (h2:2<=b) (hb:b<=1000000) (hn:n<=9223372036854775807):Calls prog 176 #[.int .i64 b,.int .i64 n] w (ln (Na.pow b n) w):=by
 have O:=aL (show Na.pow b n=Na.fits (b^n) by rw[Na.pow,bv aG,bv aG,jJ,jJ]);have G:Below w.heap.size w (w.alloc (Obj.cells #[Value.int IntKind.u32 1] 85)):=ek;have HB:=aL G;have Zr:=aL ((ycP w).sl (fun x hx=>by rw[SY.1 hx];decide:Na.OK [1]) (WL 1));have S:=aL ((ycP w).own (n:=1) (WL w.heap.size));have D:=aL (fun w=>yb3 b aG w);have E:(Na.cl b).length <=256:=(Na.Da b 256).2 (wx (show b<=1000000 by omega) tX);have L:=aL E;clear G E;go_enter func176,ntmps176
 go_wp2_with fail
 go_loopw [6,31] (ytX b n w) (fun _ i _=>n-(intOf i).toNat)
 case atStart=>exact⟨0,some ⟨w.heap.size,0,none⟩,1,iH _,rfl,by simp[Na.DZ],by simp[Na.DZ],by simpa[Na.DZ] using Zr,by simpa[Na.DZ] using S,HB⟩
 case round=>
  obtain⟨k,a,c,hk,rfl,rfl,K,o,M,g⟩:=hrel;obtain⟨x,hx⟩:=bx (b^k);rw[<-hx] at K o M ⊢;have N:=aL hx;clear hx;by_cases aW:k<n
  ·have F:Na.mul (Na.cl x) (Na.cl b)=Na.fits (b^(k+1)):=by
    rw[Na.mul,bv (by simp[Na.big,Na.PU];exact⟨K,L.out⟩),Na.nK,Na.nK,N.out,jM]
   have q:=aL (fun d A u (T:Sl d a c (Na.cl x)) (GT:Sl d A u (Na.cl b))=>(by
    have:=ycx a c (Na.cl x) A u (Na.cl b) d T GT aG (by have:=L.out;omega)
    rwa[F] at this:Calls prog 177 #[.slice a (Na.cl x).length c,.slice A (Na.cl b).length u] d (ln (Na.fits (b^(k+1))) d)))
   clear F;by_cases j:256<(Na.cl (b^(k+1))).length
   ·have l:Na.fits (b^(k+1))=([],2):=bT j;rw[l] at q
    have C:=aL (show Na.pow b n=([],2) by
     rw[O.out,Na.fits,bT];have V:Na.B^256<=b^(k+1):=Hv fun hl=>by have:=(Na.Da (b^(k+1)) 256).2 hl;omega
     exact Na.yaX _ _ (dE V (hJ aG aG)))
    clear j l;go_wp2_with (first|(go_at_call 140;refine cV (D.out _) ?_;rintro e d ⟨X,rfl,R,t,f⟩;have r:=t.sl (Na.zh b) cm;have s:=o.out.on f)|(go_at_call 177;refine cV (q.out _ _ _ s r) ?_;rintro e m ⟨z,c2,rfl,J,I,hb2⟩))
    have y:Below w.heap.size w m:=g.out.trans ((f.mono g.out.size).trans (hb2.mono (dE g.out.size f.size)));refine eB (v:= .tuple #[.slice none 0 0,.int .i64 2]) WO rfl (by rw[C.out];exact⟨none,0,rfl,Sl.nil _ _ _,Own.nil _ _ _,y⟩)
   ·have l:Na.fits (b^(k+1))=(Na.cl (b^(k+1)),0):=bv j;rw[l] at q;have Q:=aL j;clear j l;go_wp2_with (first|(go_at_call 140;refine cV (D.out _) ?_;rintro e d ⟨X,rfl,R,t,f⟩;have r:=t.sl (Na.zh b) cm;have s:=o.out.on f)|(go_at_call 177;refine cV (q.out _ _ _ s r) ?_;rintro e m ⟨z,c2,rfl,J,I,hb2⟩))
    have H:=g.out.size;have P:=f.size;have y:Below w.heap.size w m:=g.out.trans ((f.mono H).trans (hb2.mono (dE H P)))
    have Y:Own m w.heap.size z (Na.cl (b^(k+1))).length :=fun W=>by obtain⟨Z,o',e,jm,U⟩:=I W;exact⟨Z,o',e,by omega,U⟩
    go_roundw
    case rel=>exact⟨k+1,z,c2,by omega,by go_num,rfl,by have:=Q.out;omega,aL J,aL Y,aL y⟩
    case measure=>simp[intOf];omega
  ·obtain rfl:k=n:=aG;have C:=aL (show Na.pow b k=(Na.cl x,0) by rw[O.out,Na.fits,<-N.out,bv aG]);go_wp2_with fail
   refine eB (v:= .tuple #[.slice a (Na.cl x).length c,.int .i64 0]) WO rfl (by rw[C.out];exact⟨a,c,rfl,o.out,M.out,g.out⟩)
def L5 (b n:Int) (w:World) (hb: -9223372036854775808<=b/\b<=9223372036854775807) (hn: -9223372036854775808<=n/\n<=9223372036854775807):
 Calls prog 176 #[.int .i64 b,.int .i64 n] w (ln (Na.pow b n) w):=by
 by_cases h:b<0∨1000000<b∨n<0
 ·exact yn8 b n w h hb hn
 ·obtain⟨a,rfl⟩: ∃ x:Nat,b=x:=⟨b.toNat,by omega⟩;obtain⟨c,rfl⟩: ∃ x:Nat,n=x:=⟨n.toNat,by omega⟩;by_cases d:2<=a
  ·exact ypX a c w d aG aG
  ·by_cases e:a=1∨a=0/\c=0
   ·exact yuv a c w e aG
   ·obtain rfl:a=0:=aG;exact yqZ c w aG aG

def ytF (N s g off:Nat) (O q:List Nat) (w:World) (cv a:Value) (wr:World):Prop:= ∃ (k c:Nat) (o:List Nat),k<=N/\a= .int .i64 k/\cv= .int .u64 c/\Hid (c<2^s)/\Hid (Blk wr g o)/\Hid (o.length=off+N)/\Hid (Na.OK o)/\Hid (o.take off=O.take off)/\
 Hid (Na.val ((o.drop off).take k)+Na.B^k*c=Na.val (q.take k)*2^s)/\Hid (Below g w wr)
def yuh (g off N c s z:Nat) (O q:List Nat) (a:Option Addr) (w:World) (hb:Blk w g O) (A:Na.OK O) (hl:O.length=off+N) (r: ∀ wr,Below g w wr->Sl wr a z q) (E:s<32) (hq:q.length<=1000000) (H:off+N<=1000000):
 Calls prog 220 #[.slice (some ⟨g,off,none⟩) N c,.slice a q.length z,.int .i64 s] w (fun e w'=>e= .returned (.tuple #[])/\Below g w w'/\ ∃ o',Blk w' g o'/\o'.length=off+N/\Na.OK o'/\o'.take off=O.take off/\ ∃ cc,Na.val (o'.drop off)+Na.B^N*cc=Na.val (q.take N)*2^s):=by
 obtain⟨v,m,l,D⟩:=jv hb A hl r;clear hb A hl r;go_enter func220,ntmps220
 go_wp2_with fail
 go_loopw [6,10] (ytF N s g off O q w) (fun _ i _=>N-(intOf i).toNat)
 case atStart=>exact⟨0,0,O,iH _,rfl,rfl,aL (fp bL),v,l,m,aL rfl,aL KT,aL eN⟩
 case round=>
  clear v m l;obtain⟨k,cc,o,G,rfl,rfl,HC,cX,di,eG,nG,bI,bF⟩:=hrel;by_cases L:k<N
  ·have dq:off+k<o.length:=xB;have I:=cX.out.cell (off+k) dq;have fo:=cX.out.frozen (off+k);by_cases b:k<q.length
   ·obtain⟨J,F,rfl,K,y⟩:=(D.out wr bF.out).plain aG;have c1:=y k b;have hx:=(D.out wr bF.out).lt k b;have C:=aL (Na.ra q k b);obtain⟨x,u⟩: ∃ x,q[k]'b=x:=⟨_,rfl⟩;rw[u] at c1 hx C;obtain⟨eA,f⟩:=Na.ylA cc x s E HC.out hx;have j:=Na.yfY cc x s HC.out eA;have mQ:=aL (Na.yd3 o q off k cc x s dq bI.out C.out);obtain⟨t,n⟩:=bx (cc+x*2^s);rw[<-n] at eA f j mQ;have d:=aL f;clear y u n f;go_wp2_with fail
    go_roundw
    case rel=>exact⟨k+1,t / 4294967296,o.set (off+k) (t % 4294967296),by omega,by go_num,by first|rfl|(rw[j];simp)|go_num,d,aL (by have:=cX.out.set (off+k) (t % 4294967296);first|exact this|(rw[j];exact this)),aL tG,aL (Na.wa eG.out _ _ aG),aL GY,mQ,aL yD⟩
    case measure=>simp[intOf];omega
   ·refine yiG ?_;intro eA mQ e0;rw[e0] at mQ;have d:=aL (show cc / 4294967296<2^s by rw[t6 eA];exact fp bL);clear e0;go_wp2_with fail
    go_roundw
    case rel=>exact⟨k+1,cc / 4294967296,o.set (off+k) (cc % 4294967296),by omega,by go_num,by first|rfl|go_num,d,aL (by have:=cX.out.set (off+k) (cc % 4294967296);first|exact this|(rw[o0 eA] at this ⊢;exact this)),aL tG,aL (Na.wa eG.out _ _ aG),aL GY,mQ,aL yD⟩
    case measure=>simp[intOf];omega
  ·obtain rfl:k=N:=aG;exact ylS

section
def LF {w:World} {a:Option Addr} {c:Nat} {l:List Nat} (h:Sl w a c l) (hn:l.length<=1000000) (r:Bool) (b:Na.big l=r):
 Calls prog 216 #[.slice (some ⟨w.heap.size,0,none⟩) 1 1] (w.alloc (Obj.cells #[Value.slice a l.length c] 187)) (Ret0 (.bool r) (w.alloc (Obj.cells #[Value.slice a l.length c] 187))):=by
 refine EY ?_;intro hB
 have f:Args (w.alloc (Obj.cells #[Value.slice a l.length c] 187)) w.heap.size [⟨a,c,l⟩]:=by
  intro k d
  match k,d with
  |0,_=>
   refine⟨?_,h.on hB,hn⟩
   show(match (w.heap.push _)[w.heap.size]? with|some (.cells c _ _)=>if(none:Option Nat).isSome then none else c[0]? | _=>none)=_
   simp
 have:=yhy [⟨a,c,l⟩] w.heap.size _ f cn;have e:([⟨a,c,l⟩]:List Arg).any (fun x=>Na.big x.l)=r:=by rw[<-b];simp
 rw[e] at this;exact this
def K7 {q:List Nat × Int} {w w':World} (e:Int) (hq:q=([],e)) (hb:Below w.heap.size w w'):ln q w (.returned (.tuple #[.slice none 0 0,.int .i64 e])) w':=by rw[hq];exact⟨none,0,rfl,Sl.nil _ _ _,Own.nil _ _ _,hb⟩
section
variable (a:Option Addr) (c:Nat) (l:List Nat) (n:Int) (w:World) (h:Sl w a c l) (hn:l.length<=1000000) (hi: -9223372036854775808<=n/\n<=9223372036854775807)
include h hn hi
theorem yn2 (b:n<0):Calls prog 174 #[.slice a l.length c,.int .i64 n] w (ln (Na.shl l n) w):=by
 have e:=aL (K7 1 (show Na.shl l n=([],1) from bT b) (oA w.heap.size w));go_enter func174,ntmps174
 go_wp2
 refine eB (v:= .tuple #[.slice none 0 0,.int .i64 1]) ybL rfl e.out
theorem yri (d:0<=n) (hb:Na.big l=true):Calls prog 174 #[.slice a l.length c,.int .i64 n] w (ln (Na.shl l n) w):=by
 refine EY ?_;intro hB;have e:=aL (K7 2 (show Na.shl l n=([],2) by rw[Na.shl,bv aG,bT hb]) hB);have b:=aL (LF h hn true hb);clear hb;go_enter func174,ntmps174
 go_wp2_with (first|(go_at_call 216;refine cY b.out ?_))
 exact ye6
theorem ynM (i:0<=n) (hb:Na.big l=false) (hz:Na.val l=0):Calls prog 174 #[.slice a l.length c,.int .i64 n] w (ln (Na.shl l n) w):=by
 refine EY ?_;intro hB;have e:=aL (K7 0 (show Na.shl l n=([],0) by rw[Na.shl,bv aG,hb,bv cn,bT hz]) hB);have g:=aL (LF h hn false hb);have d:Na.rt l=0:=by rw[Na.rt,(Na.wd l).2 hz];rfl
 have b:=yq a c l _ (h.on hB) hn;rw[d] at b;have f:=aL (show Calls prog 217 #[.slice a l.length c] (w.alloc (Obj.cells #[Value.slice a l.length c] 187)) (Ret0 (.int .i64 0) (w.alloc (Obj.cells #[Value.slice a l.length c] 187))) from b);clear hb b d;go_enter func174,ntmps174
 go_wp2_with (first|(go_at_call 216;refine cY g.out ?_)|(go_at_call 217;refine cY f.out ?_))
 refine eB (v:= .tuple #[.slice none 0 0,.int .i64 0]) ybL rfl e.out
theorem ytV (z:0<=n) (hb:Na.big l=false) (hz:Na.val l≠0) (b:8192<n∨8192<(Na.bitLen (Na.val l):Int)+n):Calls prog 174 #[.slice a l.length c,.int .i64 n] w (ln (Na.shl l n) w):=by
 refine EY ?_;intro hB;have e:=aL (K7 2 (show Na.shl l n=([],2) by rw[Na.shl,bv aG,hb,bv cn,bv hz,bT b]) hB);have q:=aL (LF h hn false hb);have d:Na.rt l≠0:=fun e=>hz ((Na.wd l).1 (yM e));have i:=yq a c l _ (h.on hB) hn;obtain⟨r,o⟩: ∃ x,x=Na.rt l:=⟨_,rfl⟩;rw[<-o] at i d;have u:((r:Int)==0)=false:=by simpa using d
 have j:=aL i;have g:=Ng a c l _ (h.on hB) hn
 have s:Na.bitLen (Na.val l)<=40000000:=by rw[Na.bitLen,bv hz];have f:=Na.rf l h.ok;rw[show Na.B^l.length=2^(32*l.length) by rw[yc]] at f;have:=(Nat.log2_lt hz).2 f;omega
 obtain⟨bl,m⟩: ∃ x,x=Na.bitLen (Na.val l):=⟨_,rfl⟩;rw[<-m] at g s b;have t:=aL g;clear hb i d g m o;by_cases f:8192<n
 ·clear b;go_enter func174,ntmps174
  go_wp2_with (first|(go_at_call 216;refine cY q.out ?_)|(go_at_call 217;refine cY j.out ?_))
  exact ye6
 ·have y:8192<(bl:Int)+n:=aG;clear b;go_enter func174,ntmps174
  go_wp2_with (first|(go_at_call 216;refine cY q.out ?_)|(go_at_call 217;refine cY j.out ?_)|(go_at_call 218;refine cY t.out ?_))
  exact ye6
end
end

def Yx {w:World} {ops:Array Oper} {rest:List Oper} {o:Oper} {a:Act} {Q:Exit->Act->World->Prop} (hg:o.guard=none) (l c:Operand) (s:o.op=Op.makeSlice 187 l c)
 (L C:Int) (n:Nat) (hl:a.eval l= .int .i64 L) (d:a.eval c= .int .i64 C) (f:L=(n:Int)) (i:C=(n:Int)) (hn:n<=1000000)
 (g: ∀ w',Hid (Blk w' w.heap.size (List.replicate n 0))->Hid (∀ B w0,Below B w0 w->B<=w.heap.size->Below B w0 w')->wpList prog ops Q rest (a.put o.dst (.slice (some ⟨w.heap.size,0,none⟩) n n)) w'):
 wpList prog ops Q (o::rest) a w:=by
 obtain⟨b,hi,r,u,t⟩:=KI Wz;refine yaf w hg l c 187 s w.heap.size 85 b (.int .u32 0) 1 underlying187 hi r u .i64 .i64 L C n hl d f i (by rw[t];omega) IX cm fun w' q m=>g w' (aL ?_) (aL fun B w0 hb j=>hb.grown m j (fun k e=>by cases e));exact Blk.made (by simpa[Value.cells] using q)

def ykc (g off N s:Nat) (O q:List Nat) (w:World) (e:Ending) (w':World):Prop:=e= .returned (.tuple #[])/\Below g w w'/\ ∃ o',Blk w' g o'/\o'.length=off+N/\Na.OK o'/\o'.take off=O.take off/\ ∃ a,Na.val (o'.drop off)+Na.B^N*a=Na.val (q.take N)*2^s
def yuo (a:Option Addr) (c:Nat) (l:List Nat) (n:Nat) (w:World) (h:Sl w a c l) (hn:l.length<=1000000) (hb:Na.big l=false) (hz:Na.val l≠0) (F:n<=8192/\Na.bitLen (Na.val l)+n<=8192):
 Calls prog 174 #[.slice a l.length c,.int .i64 n] w (ln (Na.shl l n) w):=by
 refine EY ?_;intro hB;have W:=aL (show Na.shl l n=(Na.cl (Na.val l*2^n),0) by rw[Na.shl,bv aG,hb,bv cn,bv hz,bv aG,jJ]);have H1:=aL (LF h hn false hb);have f:Na.rt l≠0:=fun e=>hz ((Na.wd l).1 (yM e));have u:=yq a c l _ (h.on hB) hn;obtain⟨M,C⟩: ∃ x,x=Na.rt l:=⟨_,rfl⟩;rw[<-C] at u f;have jf:((M:Int)==0)=false:=by simpa using f
 have O:=aL u;have t:=Ng a c l _ (h.on hB) hn;obtain⟨bl,A⟩: ∃ x,x=Na.bitLen (Na.val l):=⟨_,rfl⟩;rw[<-A] at t F;have QK:=aL t;have j:=sU a c l _ (h.on hB) hn;have J:(Na.cut l).length <=256:=Hv (xt hb);have r:=h.cut;have o:=aL (Na.tA (a:=l));obtain⟨q,hq⟩:=bx (Na.cut l);rw[<-hq] at j J r o;obtain⟨b,m⟩: ∃ n,q.length=n:=⟨_,rfl⟩;rw[m] at j J;obtain⟨HQ,Fc⟩:=dY m j;obtain⟨p,T⟩:=bx (n / 32);obtain⟨s,S⟩:=bx (n % 32);have Ep:(n:Int) / 32=(p:Int):=aG;have Wd:(n:Int) % 32=(s:Int):=aG;have Z:s<32:=aG;have mM:p<=256:=aG;have HN:=aL (show n=32*p+s by omega);obtain⟨dq,X⟩:=F;have dx: ¬ 8192<(bl:Int)+n:=aG;have cj: ¬ 8192<(n:Int):=aG;have jB:bl<=8192:=aG;clear hb hz u f t j A C hq m T S X;go_enter func174,ntmps174
 go_wp2_with (first|(go_at_call 216;refine cY H1.out ?_)|(go_at_call 217;refine cY O.out ?_)|(go_at_call 218;refine cY QK.out ?_)|(go_at_call 219;refine cY Fc.out ?_)|(at_make;refine Yx rfl _ _ rfl _ _ (p+b+1) rfl rfl rfl rfl aG ?_))
 intro g H K;have E:=aL (K.out _ _ hB zE);have N:=aL (show Blk g (w.heap.size+1) (List.replicate (p+b+1) 0) by have:=H.out;simpa[i7] using this);clear K hB H
 have I:Calls prog 220 #[.slice (some ⟨w.heap.size+1,p,none⟩) (p+b+1-p) (p+b+1-p),.slice a b c,.int .i64 s] g (ykc (w.heap.size+1) p (b+1) s (List.replicate (p+b+1) 0) q g):=by rw[show p+b+1-p=b+1 by omega];have:=yuh (w.heap.size+1) p (b+1) (b+1) s c (List.replicate (p+b+1) 0) q a g N.out (by intro x hx;rw[ybT hx];decide) pp (fun wr hb=>r.on (E.out.trans (hb.mono aG))) Z zQ aG;rw[HQ.out] at this;exact this
 have V:=aL I
 have P:=aL (fun d (e:Ending) (f:ykc (w.heap.size+1) p (b+1) s (List.replicate (p+b+1) 0) q g e d)=>(by
  obtain⟨_,hb2,o',D,U,Q,aX,Y,L⟩:=f;have aU:Below w.heap.size w d:=E.out.trans (hb2.mono aG)
  have hv:Na.val o'=Na.val l*2^n:=by
   have R:Na.val (q.take (b+1))=Na.val l:=by rw[n0 (by rw[HQ.out];omega),o.out]
   have aW:Na.val l*2^s<Na.B^(b+1):=by have h1:=Na.rf q r.ok;rw[o.out,HQ.out] at h1;exact ygv
   rw[R] at L;refine Na.ymr o' [Na.val l] p s (b+1) Y _ ?_ aG (by rw[L];simp[Na.val]) (by simpa[Na.val] using aW) (by rw[HN.out];simp[Na.val]);rw[aX,List.take_replicate,Na.ydA]
  have hcut:Na.cut o'=Na.cl (Na.val l*2^n):=by rw[Na.cut,hv]
  have z:=D.sl Q (c:=p+b+1) aG;have G:=sU (some ⟨w.heap.size+1,0,none⟩) (p+b+1) o' d z aG;have y:=z.cut;rw[U,hcut] at G;rw[hcut] at y
  exact⟨G,y,D.own aG,aU⟩:Calls prog 219 #[.slice (some ⟨w.heap.size+1,0,none⟩) (p+b+1) (p+b+1)] d (Ret0 (.slice (some ⟨w.heap.size+1,0,none⟩) (Na.cl (Na.val l*2^n)).length (p+b+1)) d)/\
   Sl d (some ⟨w.heap.size+1,0,none⟩) (p+b+1) (Na.cl (Na.val l*2^n))/\Own d w.heap.size (some ⟨w.heap.size+1,0,none⟩) (Na.cl (Na.val l*2^n)).length /\Below w.heap.size w d))
 clear I;go_wp2_with (first|(go_at_call 220;refine cV V.out ?_;intro e d f;have i:=aL (P.out d e f);obtain⟨rfl, -⟩:=f)|(go_at_call 219;refine cY i.out.1 ?_))
 refine eB (v:= .tuple #[.slice (some ⟨w.heap.size+1,0,none⟩) (Na.cl (Na.val l*2^n)).length (p+b+1),.int .i64 0]) ybL rfl (by rw[W.out];exact⟨_,_,rfl,i.out.2.1,i.out.2.2.1,i.out.2.2.2⟩)
def ybC (a:Option Addr) (c:Nat) (l:List Nat) (n:Int) (w:World) (h:Sl w a c l) (hn:l.length<=1000000) (hi: -9223372036854775808<=n/\n<=9223372036854775807):
 Calls prog 174 #[.slice a l.length c,.int .i64 n] w (ln (Na.shl l n) w):=by
 by_cases e:n<0
 ·exact yn2 a c l n w h hn hi e
 ·cases hb:Na.big l with
  |true=>exact yri a c l n w h hn hi aG hb
  |false=>
   by_cases hz:Na.val l=0
   ·exact ynM a c l n w h hn hi aG hb hz
   ·by_cases d:8192<n∨8192<(Na.bitLen (Na.val l):Int)+n
    ·exact ytV a c l n w h hn hi aG hb hz d
    ·obtain⟨b,rfl⟩: ∃ x:Nat,n=x:=⟨n.toNat,by omega⟩
     exact yuo a c l b w h hn hb hz aG

def Tab (w:World):Prop:=Lib.TabBelow prog w.heap.size w "internal/strconv.uint64pow10" .u64 Lib.pow10Tab
def Tab.on {w a:World} (h:Tab w) (hb:Below w.heap.size w a):Lib.TabIs prog a "internal/strconv.uint64pow10" .u64 Lib.pow10Tab:=h a hb
def Tab.below {w a:World} (h:Tab w) (hb:Below w.heap.size w a):Tab a:=fun w' b=>h w' (hb.trans (b.mono hb.size))
def yc2 (n:Int) (w:World) (d: -9223372036854775808<=n) (c:n<=9223372036854775807) (b:Lib.TabIs prog w "internal/strconv.uint64pow10" .u64 Lib.pow10Tab):
 Calls prog 84 #[.int .i64 n] w (RetB (.string ⟨(Lib.itoa n).toArray⟩) w):=
 (strconv_Itoa n d c w b).mono fun e w' a=>⟨a.1,by obtain⟨k,os,e⟩:=a.2;rw[e];exact Lib.below_grow _ w cm k os⟩
def yfU (a b:ByteArray):(a++b).data.toList =a.data.toList++b.data.toList:=cn
def yuk (N g:Nat) (w:World) (rv sv:Value) (wr:World):Prop:= ∃ (v cap:Nat) (S:ByteArray) (o:List Nat),rv= .slice (some ⟨g,0,none⟩) (Na.cl v).length cap/\(Na.cl v).length <=cap/\sv= .string S/\Hid (Blk wr g o)/\Hid (Na.OK o)/\Hid ((Na.cl v).length <=o.length)/\(Na.cl v).length <=1000000/\Hid (o.length<=cap)/\
 Hid (o.take (Na.cl v).length =Na.cl v)/\Hid (if v=0 then S.data.toList=Lib.decDigits N else Lib.decDigits N=Lib.decDigits v++S.data.toList)/\Hid (Below w.heap.size w wr)
def yag:Value->Nat
 | .string s=>s.size
 | _=>0
def ylW (l:List Nat) (h:Na.OK l):(Lib.decDigits (Na.val l)).length <=10*l.length+1:=by
 have b:=Na.rf l h;have a:Na.B^l.length<=10^(10*l.length):=by rw[yc];exact yaB bL _
 exact(Na.ycL (10*l.length) _ (eR b (dE a (hJ bL aG)))).2
def ywF (a:Option Addr) (c:Nat) (l:List Nat) (w:World) (h:Sl w a c l) (hn:l.length<=1000000) (hz:Na.val l=0):
 Calls prog 178 #[.slice a l.length c] w (RetB (.string ⟨(Lib.decDigits (Na.val l)).toArray⟩) w):=by
 have d:=PT a c l w h hn;have f:Na.cut l=[]:=(Na.wd l).2 hz;rw[f] at d;have b:=aL (show Calls prog 179 #[.slice a l.length c] w (GivesB [] w) from d);have i:=aL (show(⟨(Lib.decDigits (Na.val l)).toArray⟩:ByteArray)=⟨#[48]⟩ by rw[hz,Lib.decDigits,CT bL];rfl);clear d f hz;go_enter func178,ntmps178
 go_wp2_with (first|(go_at_call 179;refine cV b.out ?_;rintro e j ⟨g,rfl,hg,k,hb⟩))
 go_ret
 exact RetB.of (by rw[i.out];rfl) hb
def ytI (a:Option Addr) (c:Nat) (l:List Nat) (w:World) (h:Sl w a c l) (hn:l.length<=1000000) (hz:Na.val l≠0) (ht:Tab w):
 Calls prog 178 #[.slice a l.length c] w (RetB (.string ⟨(Lib.decDigits (Na.val l)).toArray⟩) w):=by
 have Y:=aL (PT a c l w h hn);have C:(Na.cut l).length <=1000000:=dE (Na.yC h.ok).1 hn;have Cb:=ylW l h.ok
 have P:0<(Na.cut l).length :=by
  rcases ty (Na.cut l).length with e|e
  ·exact absurd ((Na.wd l).1 (yM e)) hz
  ·exact e
 obtain⟨N,R⟩:=bx (Na.val l);have hcut:Na.cut l=Na.cl N:=by rw[R];rfl
 rw[hcut] at Y C P;rw[<-R] at Cb hz ⊢;obtain⟨L,T⟩:=bx ((Lib.decDigits N).length);rw[<-T] at Cb;have qr:L<=20000000:=aG;obtain⟨X,HZ,HT⟩:=iJ T hz ht;have ge:(((Na.cl N).length :Int)==0)=false:=nY;clear R hcut T hz ht Cb;go_enter func178,ntmps178
 go_wp2_with (first|(go_at_call 179;refine cV Y.out ?_;rintro e w1 ⟨g,rfl,hg,E,hb⟩))
 obtain⟨HK,HB⟩:=dY E hb;clear E hb Y;go_loopw [3,4] (yuk N g w) (fun _ s _=>L+1-yag s)
 case atStart=>exact⟨N,(Na.cl N).length,⟨#[]⟩,Na.cl N,rfl,cm,rfl,HK,aL (Na.zh N),aL cm,C,aL cm,aL (zD),aL (by rw[bv HZ.out];simp),HB⟩
 case round=>
  clear HK HB C P;obtain⟨v,cap,S,o,rfl,kI,rfl,cX,eG,U,C,M,nG,H,V⟩:=hrel;by_cases hv:v=0
  ·subst hv;have HE:=aL (show(⟨(Lib.decDigits N).toArray⟩:ByteArray)=S by have:=H.out;rw[bT rfl] at this;rw[<-this]);have k:=aL (show(Na.cl 0).length =0 by rw[Na.rY];rfl);rw[k.out];go_wp2_with fail
   go_ret
   exact RetB.of (by rw[HE.out];rfl) V.out
  ·have P:0<(Na.cl v).length :=by
    rcases ty (Na.cl v).length with e|e
    ·exact absurd (Na.Ie.1 (yM e)) hv
    ·exact e
   have m:=H.out;rw[bv hv] at m;have Q:=dZ List.length m;rw[j2,dN,<-X.out] at Q;obtain⟨r,j⟩:=bx (v % 1000000000);obtain⟨u,q⟩:=bx (v / 1000000000);have qP:r<1000000000:=by rw[j];exact kk _ bL
   have G:=yhf g (Na.cl v).length cap 1000000000 o wr cX.out eG.out U.out C bL bL;rw[nG.out,Na.nK,<-j,<-q] at G;have fQ:=aL (show Calls prog 222 #[.slice (some ⟨g,0,none⟩) (Na.cl v).length cap,.int .u32 1000000000] wr _ from G);obtain⟨I,A⟩:=bx (⟨(Lib.decDigits r).toArray⟩:ByteArray);have J:I.data.toList=Lib.decDigits r:=by rw[A]
   have n:I.size=(Lib.decDigits r).length :=by rw[A,nm]
   have hI9:I.size<=9:=by rw[n,j];exact Na.ynv v
   have hI1:0<I.size:=by rw[n,Lib.decDigits];split<;>simp
   have HI:=aL (fun w' (hb:Below w.heap.size w w')=>(by
    have:=yc2 (r:Int) w' aG aG (HT.out.on hb);rw[show Lib.itoa (r:Int)=Lib.decDigits r by rw[Lib.itoa,bv aG,jJ],<-A] at this
    exact this:Calls prog 84 #[.int .i64 r] w' (RetB (.string I) w')))
   have qL:=aL (fun w' o' (E:Blk w' g o') (hl:o'.length=o.length) (cK:Na.OK o') (hv:Na.val (o'.take (Na.cl v).length)=u)=>(by
    have dP:(o'.take (Na.cl v).length).length =(Na.cl v).length :=by rw[nn,hl];have:=U.out;omega
    have K:Na.cut (o'.take (Na.cl v).length)=Na.cl u:=by rw[Na.cut,hv]
    have hs:=(E.sl cK (c:=cap) (by rw[hl];exact M.out)).take (Na.cl v).length;have hc:=sU (some ⟨g,0,none⟩) cap (o'.take (Na.cl v).length) w' hs aG;have fc:=Na.yC (Na.Au cK (Na.cl v).length);rw[dP,K] at hc;have ii:(Na.cl u).length <=(Na.cl v).length :=by have:=fc.1;rw[dP,Na.rt,K] at this;exact this
    refine⟨hc,ii,?_⟩;have e:=fc.2;rw[K,Na.rt,K,ya0,rD ii] at e
    exact e.symm:Calls prog 219 #[.slice (some ⟨g,0,none⟩) (Na.cl v).length cap] w' (Ret0 (.slice (some ⟨g,0,none⟩) (Na.cl u).length cap) w')/\(Na.cl u).length <=(Na.cl v).length /\o'.take (Na.cl u).length =Na.cl u))
   have hSs:S.size<=L:=aG;by_cases b:u=0
   ·have D:=aL (show Lib.decDigits N=Lib.decDigits r++S.data.toList by
     have VW:v=r:=by rw[q] at b;rw[j];omega
     rw[<-VW];exact m)
    have EK:L=I.size+S.size:=by rw[X.out,D.out,j2,dN,n]
    have k:=aL (show(Na.cl u).length =0 by rw[b,Na.rY];rfl);obtain⟨W,Z0⟩:=dY b J;have s1: ¬ 9223372036854775807<I.size+S.size:=aG;clear G m Q j q A J n b H;go_wp2_with (first|(go_at_call 222;refine cV fQ.out ?_;rintro e x ⟨rfl,hb2,o',z,t,y,B⟩;have f:Below w.heap.size w x:=V.out.trans (hb2.mono hg))|(go_at_call 84;refine cp (HI.out x f) ?_;intro w3 d;have i:=aL (qL.out w3 o' (z.on d) t y B);have O:=i.out.1;rw[k.out] at O;have Pq:=aL O;clear O B)|(go_at_call 219;refine cY Pq.out ?_))
    go_roundw
    case rel=>exact⟨u,cap,I++S,o',by rw[k.out],by rw[k.out];omega,rfl,aL (z.on d),aL y,aL (by rw[k.out];omega),by rw[k.out];omega,aL (by rw[t];exact M.out),aL i.out.2.2,aL (by rw[bT W.out,yfU,Z0.out,D.out]),aL (f.trans (d.mono f.size))⟩
    case measure=>simp[yag,D3];omega
   ·obtain⟨Z,F⟩:=bx (⟨(List.replicate (9-I.size) (48:UInt8)).toArray⟩:ByteArray);have KG:Z.size=9-I.size:=by rw[F,nm,XP]
    have dQ:0<(Na.cl u).length :=by
     rcases ty (Na.cl u).length with e|e
     ·exact absurd (Na.Ie.1 (yM e)) b
     ·exact e
    have D:=aL (show Lib.decDigits N=Lib.decDigits u++(Z++I++S).data.toList by
     have:=Na.ymS v (by rw[<-q];exact b);rw[<-j,<-q,<-n] at this
     rw[m,this,yfU,yfU,J,F,tr])
    have EK:L=(Lib.decDigits u).length +(Z.size+I.size+S.size):=by rw[X.out,D.out,j2,dN,D3,D3]
    have Zu:=aL (fun w'=>(by
     have:=strings_Repeat ⟨#[48]⟩ (9-I.size) w' aG (by show 1*_<=_;omega);rw[show((9-I.size:Nat):Int)=9-(I.size:Int) by omega,show(⟨(Lib.repeatL (⟨#[48]⟩:ByteArray).data.toList (9-I.size)).toArray⟩:ByteArray)=Z by rw[F,<-Na.yvJ]] at this
     exact this:Calls prog 114 #[.string ⟨#[48]⟩,.int .i64 (9-(I.size:Int))] w' (RetB (.string Z) w')))
    have W:=aL b;have s1: ¬ 9223372036854775807<Z.size+I.size:=aG;have s2: ¬ 9223372036854775807<Z.size+I.size+S.size:=aG;clear G m Q j q A J n b H F KG;go_wp2_with (first|(go_at_call 222;refine cV fQ.out ?_;rintro e x ⟨rfl,hb2,o',z,t,y,B⟩;have f:Below w.heap.size w x:=V.out.trans (hb2.mono hg))|(go_at_call 84;refine cp (HI.out x f) ?_;intro w3 d;have i:=aL (qL.out w3 o' (z.on d) t y B);have iG:=aL t;clear t B)|(go_at_call 219;refine cY i.out.1 ?_)|(go_at_call 114;refine cp (Zu.out w3) ?_;intro w4 cD))
    go_roundw
    case rel=>exact⟨u,cap,Z++I++S,o',rfl,by have:=i.out.2.1;omega,rfl,aL ((z.on d).on cD),aL y,aL (by have h1:=i.out.2.1;have h2:=U.out;rw[iG.out];omega),by have:=i.out.2.1;omega,aL (by rw[iG.out];exact M.out),aL i.out.2.2,aL (by rw[bv W.out];exact D.out),aL ((f.trans (d.mono f.size)).trans (cD.mono (dE f.size d.size)))⟩
    case measure=>simp[yag,D3];omega
def yvT (a:Option Addr) (c:Nat) (l:List Nat) (w:World) (h:Sl w a c l) (hn:l.length<=1000000) (b:Tab w):
 Calls prog 178 #[.slice a l.length c] w (RetB (.string ⟨(Lib.decDigits (Na.val l)).toArray⟩) w):=by
 by_cases hz:Na.val l=0
 ·exact ywF a c l w h hn hz
 ·exact ytI a c l w h hn hz b

section
def OY (q:List Nat × Bool × Int) (w:World) (e:Ending) (w':World):Prop:= ∃ a c,e= .returned (.tuple #[.slice a q.1.length c,.bool q.2.1,.int .i64 q.2.2])/\Sl w' a c q.1/\Own w' w.heap.size a q.1.length/\Below w.heap.size w w'
def yde {q:List Nat × Bool × Int} {w w':World} (b:Bool) (e:Int) (hq:q=([],b,e)) (hb:Below w.heap.size w w'):OY q w (.returned (.tuple #[.slice none 0 0,.bool b,.int .i64 e])) w':=by rw[hq];exact⟨none,0,rfl,Sl.nil _ _ _,Own.nil _ _ _,hb⟩
section
variable (a:Option Addr) (c:Nat) (l:List Nat) (n:Int) (w:World) (h:Sl w a c l) (hn:l.length<=1000000) (hi: -9223372036854775808<=n/\n<=9223372036854775807)
include h hn hi
theorem yux (b:n<0):Calls prog 175 #[.slice a l.length c,.int .i64 n] w (OY (Na.shr l n) w):=by
 have e:=aL (yde false 1 (show Na.shr l n=([],false,1) from bT b) (oA w.heap.size w));go_enter func175,ntmps175
 go_wp2
 refine eB (v:= .tuple #[.slice none 0 0,.bool false,.int .i64 1]) yar rfl e.out
theorem yq9 (d:0<=n) (hb:Na.big l=true):Calls prog 175 #[.slice a l.length c,.int .i64 n] w (OY (Na.shr l n) w):=by
 refine EY ?_;intro hB;have e:=aL (yde false 2 (show Na.shr l n=([],false,2) by rw[Na.shr,bv aG,bT hb]) hB);have b:=aL (LF h hn true hb);clear hb;go_enter func175,ntmps175
 go_wp2_with (first|(go_at_call 216;refine cY b.out ?_))
 refine eB (v:= .tuple #[.slice none 0 0,.bool false,.int .i64 2]) yar rfl e.out
end
end

def yvE (a:Option Addr) (c:Nat) (l:List Nat) (n:Nat) (w:World) (h:Sl w a c l) (hn:l.length<=1000000) (hi:n<=9223372036854775807) (hb:Na.big l=false) (g:(Na.cut l).length <=n / 32):
 Calls prog 175 #[.slice a l.length c,.int .i64 n] w (OY (Na.shr l n) w):=by
 refine EY ?_;intro hB;have A:=aL (LF h hn false hb);have t:(Na.cut l).length <=256:=Hv (xt hb);have e:=sU a c l _ (h.on hB) hn;have d:=h.cut
 have hv:Na.val l<2^n:=by have s:=Na.rf (Na.cut l) (Na.X0 l);rw[Na.tA,show Na.B^(Na.cut l).length =2^(32*(Na.cut l).length) by rw[yc]] at s;exact eR s (hJ bL aG)
 have o:=Na.wd l
 have j:=aL (show Na.shr l n=([],decide (0<(Na.cut l).length),0) by
  rw[Na.shr,bv aG,hb,bv cn,jJ,t6 hv,o0 hv,Na.rY];congr 2;apply sd.2
  rw[ti,tq,tq,o])
 have i:Na.rt (Na.cut l)=(Na.cut l).length :=by rw[Na.ywV];rfl
 obtain⟨q,hq⟩:=bx (Na.cut l);rw[<-hq] at e t d g j i;obtain⟨b,f⟩: ∃ n,q.length=n:=⟨_,rfl⟩;have m:=yq a c q _ (d.on hB) aG;rw[i,f] at m;rw[f] at e t g j;obtain⟨C,z⟩:=dY e m;obtain⟨p,r⟩:=bx (n / 32);have F:(n:Int) / 32=(p:Int):=aG;rw[<-r] at g;have G:min (p:Int) (b:Int)=(b:Int):=aG;have E:b<=c:=by have:=d.cap;omega
 clear hb hv o hq f e m i r d;go_enter func175,ntmps175
 go_wp2_with (first|(go_at_call 216;refine cY A.out ?_)|(go_at_call 219;refine cY C.out ?_)|(go_at_call 217;refine cY z.out ?_)|(at_make;refine Yx rfl _ _ rfl _ _ 0 rfl rfl cn cn aG ?_))
 intro D y u;have x:=aL (u.out _ _ hB zE);clear u hB y;go_wp2_with (first|(refine wpList_copy_nothing rfl _ _ 187 187 rfl 85 underlying187 cI _ _ _ _ _ _ rfl rfl cn ?_))
 all_goals exact eB (v:= .tuple #[.slice none 0 0,.bool (decide (0<b)),.int .i64 0]) yar rfl (yde _ 0 j.out x.out)

def shrLoop (m s g:Nat) (X:List Nat) (w:World) (a:Value) (wr:World):Prop:= ∃ (i:Nat) (o:List Nat),i<=m/\a= .int .i64 i/\Hid (Blk wr g o)/\Hid (o.length=m)/\Hid (Na.OK o)/\Hid (o.drop i=X.drop i)/\
 Hid (Na.val (o.take i)+Na.B^i*(Na.val (X.drop i) / 2^s)=Na.val X / 2^s)/\Hid (Below w.heap.size w wr)
def yqV (l:List Nat):0<Na.rt l↔Na.val l≠0:=by rw[Na.rt,ti,tq,tq,Na.wd]
def Na.yf1 (X:List Nat) (i s x y:Nat) (c:s<32) (hi:i<X.length) (hx:X[i]=x) (g:x<4294967296) (b: ∃ r,Na.val (X.drop (i+1))=y+Na.B*r) (P V:Nat)
 (a:P+Na.B^i*(Na.val (X.drop i) / 2^s)=V):P+Na.B^i*((x+y*4294967296) / 2^s % 4294967296)+Na.B^(i+1)*(Na.val (X.drop (i+1)) / 2^s)=V:=by
 obtain⟨r,d⟩:=b;have f:=Na.yt2 x y (Na.val (X.drop (i+1))) r s c g d;have e:Na.val (X.drop i)=x+Na.B*Na.val (X.drop (i+1)):=by rw[xE hi,hx];rfl
 rw[e,f] at a;rw[<-a,lW,jM,fB (Na.B^i) Na.B,Ux]
def shrLoop.drew {m s g:Nat} {X:List Nat} {w:World} {a:Value} {wr:World} (h:shrLoop m s g X w a wr) (n:Nat):shrLoop m s g X w a (wr.drewN n):=by obtain⟨i,o,l,k,j,f,e,d,c,b⟩:=h;exact⟨i,o,l,k,aL (show _=_ from j.out),f,e,d,c,aL (oY b.out n)⟩
def Na.ygn (X o:List Nat) (i v V s:Nat) (hi:i<o.length) (hd:o.drop i=X.drop i) (h:Na.val (o.take i)+Na.B^i*v+Na.B^(i+1)*(Na.val (X.drop (i+1)) / 2^s)=V):
 (o.set i v).drop (i+1)=X.drop (i+1)/\Na.val ((o.set i v).take (i+1))+Na.B^(i+1)*(Na.val (X.drop (i+1)) / 2^s)=V:=by
 constructor
 ·rw[ybc,bT aG];have:=dZ (List.drop 1) hd;rwa[EQ,EQ] at this
 ·rw[Na.ER o i v hi,h]
def Na.ycm {X o:List Nat} {i j:Nat} (hd:o.drop i=X.drop i) (hj:i<=j) (b:j<o.length) (hx:j<X.length):o[j]=X[j]:=by
 have a:(o.drop i)[j-i]? =(X.drop i)[j-i]? :=by rw[hd]
 rw[yac,yac,show i+(j-i)=j by omega,n9 b,n9 hx] at a;exact tJ a
def ytN (a:Option Addr) (c:Nat) (l:List Nat) (n:Nat) (w:World) (h:Sl w a c l) (hn:l.length<=1000000) (hi:n<=9223372036854775807) (hb:Na.big l=false) (hp:n / 32<(Na.cut l).length):
 Calls prog 175 #[.slice a l.length c,.int .i64 n] w (OY (Na.shr l n) w):=by
 refine EY ?_;intro hB;have H1:=aL (LF h hn false hb);have eA:(Na.cut l).length <=256:=Hv (xt hb);have O:=sU a c l _ (h.on hB) hn;have f:=h.cut;have hv:=Na.tA (a:=l);obtain⟨q,hq⟩:=bx (Na.cut l);rw[<-hq] at O eA f hp hv;obtain⟨p,ni⟩:=bx (n / 32);obtain⟨s,Wb⟩:=bx (n % 32);have Ep:(n:Int) / 32=(p:Int):=aG;have Wd:(n:Int) % 32=(s:Int):=aG;have Q:s<32:=aG;have Ha:n=32*p+s:=aG;rw[<-ni] at hp;have GZ:=Na.wW q p aG;have dp:=Na.rf (q.take p) (Na.Au f.ok p);rw[nn,rD aG] at dp;obtain⟨S,R⟩:=Na.yoE (Na.val (q.take p)) (Na.val (q.drop p)) p s dp;rw[<-GZ,<-Ha,hv] at S R
 have d:=aL (show Na.shr l n=(Na.cl (Na.val (q.drop p) / 2^s),decide (Na.val (q.take p)≠0∨Na.val (q.drop p) % 2^s≠0),0) by
  rw[Na.shr,bv aG,hb,bv cn,jJ,S];congr 2
  exact sd.2 R)
 have N:=yq a c (q.take p) _ ((f.on hB).take p) ycF;rw[nn,rD aG] at N;obtain⟨m,pG⟩: ∃ m,q.length=p+m:=⟨q.length-p,by omega⟩;have jD:0<m:=aG;rw[pG] at O eA;obtain⟨b,o,rfl,bQ,eu⟩:=f.plain aG;have kI:p+m<=c:=by have:=f.cap;omega
 obtain⟨X,E⟩:=bx (q.drop p);have SM:X.length=m:=by rw[E,rS];omega
 have Iq:Na.OK X:=by rw[E];exact Na.yfa f.ok p
 have iw:=aL (show ∀ j v,(u32s X)[j]? =some v->w.cell? ⟨b,o+p+j,none⟩=some v by
  intro j v hv;have hj:j<X.length:=by have:=(o6.1 hv).1;rwa[A6] at this
  rw[yds X j hj] at hv;have e:=eu (p+j) aG;rw[Ux,e,<-Option.some.inj hv];congr 3
  simp[E])
 rw[<-E] at d;obtain⟨H,T⟩: ∃ r,r=Na.rt (q.take p):=⟨_,rfl⟩
 have dH:decide (Na.val (q.take p)≠0∨Na.val X % 2^s≠0)=(decide (0<H) || decide (Na.val X % 2^s≠0)):=by rw[T];simp only[Bool.decide_or,yqV]
 rw[<-T] at N;rw[dH] at d;obtain⟨Fc,LI,wA,L⟩:=jv O N SM Iq;have Bo:min (p:Int) ((p:Int)+(m:Int))=(p:Int):=aG;have sO: ¬ c=p:=aG;have Wp:((p+m:Nat):Int)=(p:Int)+(m:Int):=cn;clear hb hv hq GZ dp S R O N ni Wb Ha E SM Iq T dH pG f eu;go_enter func175,ntmps175
 go_wp2_with (first|(go_at_call 216;refine cY H1.out ?_)|(go_at_call 219;refine cY Fc.out ?_)|(go_at_call 217;refine cY LI.out ?_)|(at_make;refine Yx rfl _ _ rfl _ _ m rfl rfl aG aG aG ?_))
 intro w1 hK bB;have U:=aL (bB.out _ _ hB zE);have ri:=aL (show Blk w1 (w.heap.size+1) (List.replicate m 0) by have:=hK.out;simpa[i7] using this);clear bB hB hK;go_wp2_with (first|(refine wpList_copy_splice rfl _ _ 187 187 rfl 85 underlying187 cI _ _ _ _ _ _ rfl rfl (w.heap.size+1) 0 (u32s (List.replicate m 0)) 85 ri.out (u32s X) (by rw[A6,wA.out];show _=min _ _;omega) (fun h0=>⟨rfl,_,rfl,fun j v hv=>(by rw[yjI];exact(U.out.cell (p:=⟨b,o+p+j,none⟩) bQ).trans (iw.out j v hv))⟩) (by simp[A6,wA.out]) (ylV _) w.heap.size w U.out aG ?_))
 intro w2 nw aP;have Qr:=aL (show Blk w2 (w.heap.size+1) X by have:=nw.out;rwa[yhj _ _ (by simp[A6,wA.out])] at this);have kx:=aL aP;clear nw aP ri U iw H1 Fc LI h;go_wp2_with fail
 have C:0<X.length:=XD;have cx:=Qr.out.cell 0 C;have GE:X[0]'C<4294967296:=L.out _ (pK C);obtain⟨x0,Az⟩: ∃ x,X[0]'C=x:=⟨_,rfl⟩;rw[Az] at cx GE;obtain⟨M,F⟩:=bx (2^s);have oW:1<=M:=by rw[F];exact fp bL
 have nC:M<=2147483648:=by rw[F];exact hJ bL (show s<=31 by omega)
 have OF:((2:Int)^s)=(M:Int):=by rw[F];simp
 obtain⟨HM,wB⟩:=dY F Az;clear F Az;clear Bo sO Wp Ep jD;have Z:=Na.Rk x0 s GE Q;obtain⟨z0,W⟩: ∃ z,z=x0 % 2^s:=⟨_,rfl⟩;rw[<-W,<-HM.out,show((M-1:Nat):Int)=(M:Int)-1 by omega] at Z
 have Kb:Na.val X % 2^s=z0:=by
  rw[W,<-wB.out]
  have e1:Na.val X=X[0]+Na.B*Na.val (X.drop 1):=by
   conv=>lhs;rw[<-List.drop_zero (l:=X),xE C]
   rfl
  rw[e1,show Na.B=2^s*2^(32-s) by rw[<-Nat.pow_add,show s+(32-s)=32 by omega],fB,E5]
 rw[Kb] at d
 have NQ:decide (z0≠0)=((z0:Int) != 0):=by rw[vs];simp
 rw[NQ] at d;have nP:=aL (show shrLoop m s (w.heap.size+1) X w (.int .i64 ((0:Nat):Int)) w2 from⟨0,X,iH _,rfl,Qr,wA,L,aL rfl,aL KT,kx⟩);clear W Kb NQ Qr kx;by_cases hr:0<H
 all_goals
  first
  |(
   have hd:decide (0<H)=true:=fv hr
   rw[hd,Bool.true_or] at d
   simp only[hd]
   clear OF Z cx
   go_quiet (fail)
   clear hd
   have OF:((2:Int)^s)=(M:Int):=by rw[HM.out];simp
   go_wp2_with fail)|(
   have hd:decide (0<H)=false:=eL hr
   rw[hd,Sc] at d
   simp only[hd]
   go_quiet (fail)
   clear hd Z cx
   go_wp2_with fail)
  go_loopw [67] (shrLoop m s (w.heap.size+1) X w) (fun i _=>m-(intOf i).toNat)
  case atStart=>exact nP.out.drew _
  case round=>
   clear nP
   obtain⟨i,o2,hi,rfl,cX,di,eG,I,bI,bF⟩:=hrel
   by_cases aW:i<m
   ·have K:i<o2.length:=xB
    have g:i<X.length:=XD
    have co:=cX.out.cell i K
    have fo:=cX.out.frozen i
    have Y:X[i]'g<4294967296:=L.out _ (pK g)
    obtain⟨x,G⟩: ∃ x,X[i]'g=x:=⟨_,rfl⟩
    rw[Na.ycm I.out cm K g] at co
    rw[G] at co Y
    by_cases jj:i+1<m
    ·have cf:i+1<o2.length:=xB
     have A:i+1<X.length:=XD
     have TS:=cX.out.cell (i+1) cf
     have lX:X[i+1]'A<4294967296:=L.out _ (pK A)
     have HR:=aL (show ∃ r,Na.val (X.drop (i+1))=X[i+1]+Na.B*r from⟨Na.val (X.drop (i+1+1)),by rw[xE A];rfl⟩)
     obtain⟨y,m7⟩: ∃ x,X[i+1]'A=x:=⟨_,rfl⟩
     rw[Na.ycm I.out (ls _) cf A] at TS
     rw[m7] at TS lX HR
     have HS:=aL (Na.ygn X o2 i _ _ s K I.out (Na.yf1 X i s x y Q g G Y HR.out _ _ bI.out))
     have J:=Na.yfY x y 32 aG aG
     have TQ:IntKind.u64.wrap ((y:Int)*2^32)=(y:Int)*4294967296:=by rw[show((y:Int)*2^32)=((y*4294967296:Nat):Int) by simp,Na.wrap_u64 _ aG];simp
     rw[TQ] at J
     have TP:x+y*2^32=x+y*4294967296:=rfl
     rw[TP] at J
     have u:x+y*4294967296<18446744073709551616:=aG
     have qf:bits BinOp.or IntKind.u64 (x:Int) ((y:Int)*4294967296)=((x+y*4294967296:Nat):Int):=J
     obtain⟨t,D⟩:=bx (x+y*4294967296)
     rw[<-D] at HS qf u
     clear D J TQ TP G m7
     go_wp2_with fail
     go_roundw
     case rel=>
      exact ygS
     case measure=>simp[intOf];omega
    ·have HS:=aL (Na.ygn X o2 i _ _ s K I.out (Na.yf1 X i s x 0 Q g G Y ⟨0,by rw[yas XD];rfl⟩ _ _ bI.out))
     obtain⟨t,D⟩:=bx (x+0*4294967296)
     rw[<-D] at HS
     obtain rfl:t=x:=aG
     clear D G
     go_wp2_with fail
     go_roundw
     case rel=>
      exact ygS
     case measure=>simp[intOf];omega
   ·obtain rfl:i=m:=aG
    have hv:Na.val o2=Na.val X / 2^s:=by have:=bI.out;rw[n0 xB,yas XD] at this;simpa[Na.val] using this
    have hcut:Na.cut o2=Na.cl (Na.val X / 2^s):=by rw[Na.cut,hv]
    have u:=cX.out.sl eG.out (c:=i) xB
    have V:=sU (some ⟨w.heap.size+1,0,none⟩) i o2 wr u xB
    have P:=u.cut
    rw[di.out,hcut] at V
    rw[hcut] at P
    obtain⟨HC,Jj⟩:=dY V P
    clear V P u hcut hv
    go_wp2_with (first|(go_at_call 219;refine cY HC.out ?_))
    first
    |refine eB (v:= .tuple #[.slice (some ⟨w.heap.size+1,0,none⟩) (Na.cl (Na.val X / 2^s)).length i,.bool true,.int .i64 0]) yar rfl (by rw[d.out];exact⟨_,_,rfl,Jj.out,cX.out.own aG,bF.out⟩)
    |refine eB (v:= .tuple #[.slice (some ⟨w.heap.size+1,0,none⟩) (Na.cl (Na.val X / 2^s)).length i,.bool ((z0:Int) != 0),.int .i64 0]) yar rfl (by rw[d.out];exact⟨_,_,rfl,Jj.out,cX.out.own aG,bF.out⟩)
def yhG (a:Option Addr) (c:Nat) (l:List Nat) (n:Int) (w:World) (h:Sl w a c l) (hn:l.length<=1000000) (hi: -9223372036854775808<=n/\n<=9223372036854775807):
 Calls prog 175 #[.slice a l.length c,.int .i64 n] w (OY (Na.shr l n) w):=by
 by_cases e:n<0
 ·exact yux a c l n w h hn hi e
 ·cases hb:Na.big l with
  |true=>exact yq9 a c l n w h hn hi aG hb
  |false=>
   obtain⟨b,rfl⟩: ∃ x:Nat,n=x:=⟨n.toNat,by omega⟩
   by_cases d:b / 32<(Na.cut l).length
   ·exact ytN a c l b w h hn aG hb d
   ·exact yvE a c l b w h hn aG hb aG

structure Onl (g:Nat) (w wr:World):Prop where
 below:Below g w wr
 block: ∀ k,k≠g->k<w.heap.size->wr.heap[k]? =w.heap[k]?
def Onl.refl (g:Nat) (w:World):Onl g w w:=⟨eN,fun _ _ _=>rfl⟩
def Onl.trans {g:Nat} {a b c:World} (h:Onl g a b) (k:Onl g b c):Onl g a c:=⟨h.below.trans k.below,fun i hi hl=>(k.block i hi (eR hl h.below.size)).trans (h.block i hi hl)⟩
def Onl.setCell {g:Nat} {a b:World} (h:Onl g a b) (i:Nat) (u:Value):Onl g a (b.setCell ⟨g,i,none⟩ u):=
 ⟨h.below.setCell cm u,fun k c hl=>(tF _ _ _ _ c).trans (h.block k c hl)⟩
def Onl.up {g B:Nat} {a b:World} (h:Onl g a b) (c:B<=g):Below B a b:=h.below.mono c

namespace Na
open Go
structure Kn (U V W top u2 U' v1 v2 V':Nat):Prop where
 hU:U=(top*B+u2)*W+U'
 hV:V=(v1*B+v2)*W+V'
 lU:U'<W
 lV:V'<W
 lu:u2<B
 lv:v2<B
 pv:0<v1
 lt:U<V*B
section
variable {U V W top u2 U' v1 v2 V':Nat} (h:Kn U V W top u2 U' v1 v2 V')
include h
theorem Kn.posW:0<W:=by have:=h.lU;omega
theorem Kn.ltU:U<top*(B*W)+B*W:=by have b:=iS W (show u2+1<=B from h.lu);have a:=h.hU;rw[iW,nW] at b;rw[iW,fB] at a;have:=h.lU;omega
theorem Kn.leV:v1*(B*W)<=V:=by have a:=h.hV;rw[iW,fB] at a;omega
theorem Kn.posV:0<V:=by have b:=h.leV;have a:0<v1*(B*W):=xG h.pv (xG bL h.posW);omega
theorem Kn.leV1:B*W<=V:=by have b:=h.leV;have a:=iS (B*W) (show 1<=v1 from h.pv);omega
theorem Kn.start:U / V<=top / v1:=by
 rw[zj h.pv];rcases qt top (U / V*v1) with a|a
 ·exfalso;have b:=iS (B*W) (show top+1<=U / V*v1 from a);rw[iW,nW,fB] at b;have e:=nS (U / V) h.leV;have d:=ybg U V;have c:=h.ltU;omega
 ·exact a
theorem Kn.ltB:U / V<B:=by rw[wm h.posV,fM];exact h.lt
theorem Kn.down {d r:Nat} (hd:d*v1+r=top) (hq:U / V<=d) (a:B<=d∨r*B+u2<d*v2):0<d/\U / V<=d-1/\(d-1)*v1+(r+v1)=top:=by
 have g:U / V<d:=by
  rcases a with a|a
  ·have:=h.ltB;omega
  ·rw[wm h.posV,fM];refine yfO ?_;intro e e2;have c:top*B+u2+1<=d*(v1*B+v2):=aG;have b:=iS W c;rw[iW,nW,fB] at b;have f:d*((v1*B+v2)*W)<=d*V:=nS d (by rw[h.hV];omega);have:=h.hU;have:=h.lU;rw[fM V d];omega
 have i:=iH (U / V);refine⟨by omega,by omega,?_⟩;obtain⟨k,rfl⟩: ∃ k,d=k+1:=⟨d-1,by omega⟩;rw[va];rw[iW,nW] at hd;omega
theorem Kn.close {d:Nat} (hd:d<B) (a:d*(v1*B+v2)<=top*B+u2):d*V<U+V:=by
 have b:=iS W a;rw[fB] at b;have i:d*V=d*((v1*B+v2)*W)+d*V':=by rw[h.hV,lW]
 have g:d*V'<=d*W:=nS d (lY h.lV)
 have f:d*W+W<=B*W:=by have:=iS W (show d+1<=B from hd);rwa[iW,nW] at this
 have e:=h.leV1;have c:=h.hU;have:=h.posW;omega
theorem Kn.stop {d r:Nat} (hd:d*v1+r=top) (a:d<B) (b:d*v2<=r*B+u2):d*V<U+V:=by refine h.close a ?_;refine yfO ?_;intro e e2;omega
theorem Kn.top_le:top<=v1*B+v2:=by
 rcases qt (v1*B+v2) top with a|a
 ·exfalso;have d:=iS (B*W) (show v1*B+v2+1<=top from a)
  have c:top*(B*W)<=U:=by have:=h.hU;rw[iW,fB] at this;omega
  have b:V*B<=(v1*B+v2+1)*(B*W):=by
   have:V<=(v1*B+v2+1)*W:=by rw[iW (v1*B+v2),nW];have:=h.hV;have:=h.lV;omega
   have:=iS B this;rw[fB,fM W B] at this;exact this
  have:=h.lt;omega
 ·exact a
theorem Kn.broke {d r:Nat} (hd:d*v1+r=top) (c:B<=r):d<B/\d*V<U+V:=by
 have g:=h.top_le;have f:=h.lv
 have a:d<B:=by
  rcases qt d B with b|b
  ·exact b
  ·have:=iS v1 b;rw[fM B v1] at this;omega
 refine⟨a,h.close a ?_⟩;refine yfO ?_;intro e e2;have l:d*v2<=d*B:=nS d (lY f);have j:=iS B (lY a);have i:=iS B c;omega
end
def yiV {U V d N o e:Nat} (hV:0<V) (u:V<=N) (hq:U / V<=d) (hd:d*V<U+V) (s:o<N) (h:U+N*e=o+d*V) (hb:e<=1):
 (e=0->o=U % V/\d=U / V)/\(e=1-> ∀ a c,a<N->a+N*c=o+V->a=U % V/\0<d/\d-1=U / V):=by
 have hm:=sz U V;have hl:=kk U hV
 have r:d<=U / V+1:=by
  have:d-1<U / V+1∨d=0:=by
   rcases ty d with f|f
   ·exact Or.inr f
   ·left;obtain⟨k,rfl⟩: ∃ k,d=k+1:=⟨d-1,by omega⟩;rw[iW,nW] at hd;have:k<=U / V:=by rw[zj hV];omega
    omega
  have f:=iH (U / V);omega
 constructor
 ·rintro rfl;rw[sr,ms] at h;have l:d<=U / V:=by rw[zj hV];omega
  have b:d=U / V:=aG;subst b;rw[fM] at hm;exact⟨by omega,rfl⟩
 ·rintro rfl a c m t;rw[oU] at h
  have l:U / V<d:=by rw[wm hV,fM];rw[fM V d];omega
  have b:d=U / V+1:=aG;rw[b,iW,nW,fM (U / V) V] at h;have j:N*c+a=N*1+U % V:=aG
  have i:c=1:=by
   have g:U % V<N:=aG;have q:(N*c+a) / N=c:=by rw[JS aG,t6 m];omega
   have n:(N*1+U % V) / N=1:=by rw[JS aG,t6 g]
   rw[<-q,j,n]
  subst i;exact⟨by omega,by rw[b];exact Nat.succ_pos _,by rw[b];rfl⟩
def ykV (O o q:List Nat) (off d k x y c b c2 b2 v:Nat) (l:off+k<o.length) (j:(O.drop off).take (k+1)=(O.drop off).take k++[x])
 (a:val ((O.drop off).take k)+B^k*(c+b)=val ((o.drop off).take k)+d*val (q.take k)) (hq:val (q.take (k+1))=val (q.take k)+B^k*y)
 (hl:(O.drop off).length >=k+1) (e:x+B*(c2+b2)=v+(d*y+c+b)):
 val ((O.drop off).take (k+1))+B^(k+1)*(c2+b2)=val (((o.set (off+k) v).drop off).take (k+1))+d*val (q.take (k+1)):=by
 rw[drop_set,ER _ k _ yK,hq,j,Uh,jM,nn,rD aG];have i:=dZ (B^k * ·) e;simp only[lW] at i;simp only[val,sr,ms];have g:d*(B^k*y)=B^k*(d*y):=by rw[vf]
 have f:B^k*B*(c2+b2)=B^k*(B*c2)+B^k*(B*b2):=by rw[fB,lW,lW]
 rw[lW d,g,f];rw[lW] at a;omega
end Na

def Blk.onl {w w':World} {g k:Nat} {o:List Nat} (h:Blk w k o) (hb:Onl g w w') (a:k≠g):Blk w' k o:=(hb.block k a h.lt).trans h
def Na.yiY (x lo hi c b a:Nat) (hx:x<4294967296) (f:lo<4294967296) (g:hi<=4294967294) (d:c<4294967296) (hb:b<=1) (e:a=(lo+c) % 4294967296):
 ∃ o b2 c2:Nat,o<4294967296/\b2<=1/\c2<4294967296/\(hi:Int)+((lo:Int)+c) / 4294967296=(c2:Int)/\(((x:Int)-a) % 18446744073709551616-b) % 18446744073709551616 % 4294967296=(o:Int)/\(((x:Int)-a) % 18446744073709551616-b) % 18446744073709551616 / 9223372036854775808=(b2:Int)/\
 x+Na.B*(c2+b2)=o+(hi*4294967296+lo+c+b)/\(hi=0->lo=0->c2=0):=by
 show ∃ o b2 c2:Nat,o<4294967296/\b2<=1/\c2<4294967296/\(hi:Int)+((lo:Int)+c) / 4294967296=(c2:Int)/\(((x:Int)-a) % 18446744073709551616-b) % 18446744073709551616 % 4294967296=(o:Int)/\(((x:Int)-a) % 18446744073709551616-b) % 18446744073709551616 / 9223372036854775808=(b2:Int)/\
  x+4294967296*(c2+b2)=o+(hi*4294967296+lo+c+b)/\(hi=0->lo=0->c2=0)
 rcases qt x (a+b) with h|h
 ·exact⟨x+4294967296-a-b,1,hi+(lo+c) / 4294967296,by omega,by omega,by omega,by omega,by omega,by omega,by omega,by omega⟩
 ·exact⟨x-a-b,0,hi+(lo+c) / 4294967296,by omega,by omega,by omega,by omega,by omega,by omega,by omega,by omega⟩
def Na.ydM (a:Nat) (b:a<18446744073709551616):bits BinOp.and IntKind.u64 (a:Int) 4294967295=((a % 4294967296:Nat):Int):=by have h:=yem a 4294967295 b bL;rw[show(4294967295:Nat)=2^32-1 from rfl,ybY] at h;exact h
def Na.ybs {O o:List Nat} {i v:Nat} (h:o.drop i=O.drop i):(o.set i v).drop (i+1)=O.drop (i+1):=by rw[ybc,bT aG];have:=dZ (List.drop 1) h;rwa[EQ,EQ] at this
def yra (N off g d:Nat) (O q:List Nat) (w:World) (cv e a:Value) (wr:World):Prop:= ∃ (k c b:Nat) (o:List Nat),k<=N/\a= .int .i64 k/\cv= .int .u64 c/\e= .int .u64 b/\c<4294967296/\b<=1/\Hid (Blk wr g o)/\Hid (o.length=O.length)/\Hid (Na.OK o)/\
 Hid (o.take off=O.take off)/\Hid (o.drop (off+k)=O.drop (off+k))/\Hid (q.length<k->c=0)/\Hid (Na.val ((O.drop off).take k)+Na.B^k*(c+b)=Na.val ((o.drop off).take k)+d*Na.val (q.take k))/\Hid (Onl g w wr)
def yiv (N off g d:Nat) (O q:List Nat) (w:World) (e:Ending) (w':World):Prop:= ∃ a,a<=1/\e= .returned (.bool (decide (0<a)))/\Onl g w w'/\ ∃ o,Blk w' g o/\o.length=O.length/\Na.OK o/\o.take off=O.take off/\o.drop (off+N)=O.drop (off+N)/\
 Na.val ((O.drop off).take N)+Na.B^N*a=Na.val ((o.drop off).take N)+d*Na.val q
def yrR (g gv off N c ca d:Nat) (O q:List Nat) (w:World) (hb:Blk w g O) (Y:Na.OK O) (hl:off+N<=O.length) (hv:Blk w gv q) (U:Na.OK q) (Z:gv≠g) (RL:q.length<N) (hd:d<4294967296) (hN:off+N<=1000000):
 Calls prog 293 #[.slice (some ⟨g,off,none⟩) N c,.slice (some ⟨gv,0,none⟩) q.length ca,.int .u64 d] w (yiv N off g d O q w):=by
 obtain⟨et,mE,qI,HV,Pu,Ab⟩:=ts hb Y hl hv U Z;clear hb Y hl hv U Z;go_enter func293,ntmps293
 go_wp2_with fail
 go_loopw [7,8,15] (yra N off g d O q w) (fun _ _ i _=>N-(intOf i).toNat)
 case atStart=>exact⟨0,0,0,O,iH _,rfl,rfl,rfl,by omega,by omega,et,aL rfl,mE,aL rfl,aL rfl,aL (fun _=>rfl),aL KT,aL (Onl.refl _ _)⟩
 case round=>
  obtain⟨k,a,b,o,hk,rfl,rfl,rfl,D,G,cX,di,F,nG,r,HZ,n,t⟩:=hrel;by_cases aW:k<N
  ·refine yi2 ?_;intro qp dq co fo gR
   have H:=aL (show(O.drop off).take (k+1)=(O.drop off).take k++[O[off+k]'qp] by rw[yh yK,Nk])
   obtain⟨x,V⟩: ∃ x,O[off+k]'qp=x:=⟨_,rfl⟩;rw[Na.ycm r.out cm dq qp] at co;rw[V] at co gR H;clear V;by_cases f:k<q.length
   ·have T:=HV.out.onl t.out Ab.out;have c1:=T.cell k f;have P:q[k]'f<4294967296:=Pu.out _ (pK f);have u:=aL (Na.ra q k f);obtain⟨y,M⟩: ∃ x,q[k]'f=x:=⟨_,rfl⟩;rw[M] at c1 P u;have hp:=(Na.ye1 d y 0 0 hd P aG aG).1;have Xg:(d:Int)*(y:Int)=((d*y:Nat):Int):=cn;obtain⟨p,A⟩:=bx (d*y);rw[<-A] at hp Xg;obtain⟨hi,cF⟩: ∃ h,h=p / 4294967296:=⟨_,rfl⟩;obtain⟨lo,W⟩: ∃ h,h=p % 4294967296:=⟨_,rfl⟩;obtain⟨Q,E⟩: ∃ h,h=(lo+a) % 4294967296:=⟨_,rfl⟩;have R:=Na.ydM p aG;rw[<-W] at R;have jk:(p:Int) / 4294967296=(hi:Int):=aG;have Nh:lo<4294967296:=aG;have Nx:hi<=4294967294:=aG;have C:=Na.ydM (lo+a) aG;rw[<-E,show((lo+a:Nat):Int)=(lo:Int)+(a:Int) by simp] at C;have WK:Q<4294967296:=aG;obtain⟨z,b2,c2,hz,hb2,X,s,m,j,e,v⟩:=Na.yiY x lo hi a b Q gR Nh Nx D G E;have L:hi*4294967296+lo=d*y:=by rw[<-A];omega
    rw[L] at e;have I:=aL (Na.ykV O o q off d k x y a b c2 b2 z dq H.out n.out u.out yK e);obtain⟨E1,K,J⟩:=iJ s m j;clear M T A cF W E L e v s m j n;go_wp2_with fail
    go_roundw
    case rel=>
     rw[zA,zA,E1.out,K.out,J.out];exact⟨k+1,c2,b2,o.set (off+k) z,by omega,by go_num,rfl,rfl,X,hb2,aL (cX.out.set _ _),aL tG,aL (Na.wa F.out _ _ hz),aL GY,aL (Na.ybs r.out),aL (fun h=>absurd h aG),I,aL (t.out.setCell _ _)⟩
    case measure=>simp[intOf];omega
   ·have u:=aL (Na.XK q k aG);obtain⟨z,b2,c2,hz,hb2,X,s,m,j,e,v⟩:=Na.yiY x 0 0 a b a gR aG aG D G aG;obtain rfl:c2=0:=v rfl rfl;have I:=aL (Na.ykV O o q off d k x 0 a b 0 b2 z dq H.out n.out u.out yK (by rw[e];omega));have R:bits BinOp.and IntKind.u64 0 4294967295=0:=bL;have C:=Na.ydM a aG;rw[o0 D] at C;have EH:(a:Int) / 4294967296=0:=aG;obtain⟨K,J⟩:=dY m j;clear e v s m j n;go_wp2_with fail
    go_roundw
    case rel=>
     rw[zA,zA,K.out,J.out];exact⟨k+1,0,b2,o.set (off+k) z,by omega,by go_num,rfl,rfl,by omega,hb2,aL (cX.out.set _ _),aL tG,aL (Na.wa F.out _ _ hz),aL GY,aL (Na.ybs r.out),aL (fun _=>rfl),I,aL (t.out.setCell _ _)⟩
    case measure=>simp[intOf];omega
  ·obtain rfl:k=N:=aG
   have HE:=aL (show Na.val ((O.drop off).take k)+Na.B^k*b=Na.val ((o.drop off).take k)+d*Na.val q by
    have S:=n.out;have h2:=HZ.out RL;rw[h2,iR,n0 (l:=q) aG] at S
    exact S)
   go_wp2_with fail
   go_ret
   exact⟨b,G,by simp,t.out,o,cX.out,di.out,F.out,nG.out,r.out,HE.out⟩

def yo7 (N off g:Nat) (O q:List Nat) (w:World) (cv a:Value) (wr:World):Prop:= ∃ (k c:Nat) (o:List Nat),k<=N/\a= .int .i64 k/\cv= .int .u32 c/\c<=1/\Hid (Blk wr g o)/\Hid (o.length=O.length)/\Hid (Na.OK o)/\
 Hid (o.take off=O.take off)/\Hid (o.drop (off+k)=O.drop (off+k))/\Hid (Na.val ((o.drop off).take k)+Na.B^k*c=Na.val ((O.drop off).take k)+Na.val (q.take k))/\Hid (Onl g w wr)
def ygX (N off g:Nat) (O q:List Nat) (w:World) (e:Ending) (w':World):Prop:=e= .returned (.tuple #[])/\Onl g w w'/\ ∃ o c,Blk w' g o/\o.length=O.length/\Na.OK o/\o.take off=O.take off/\o.drop (off+N)=O.drop (off+N)/\
 Na.val ((o.drop off).take N)+Na.B^N*c=Na.val ((O.drop off).take N)+Na.val q
def ysI (g gv off N c P:Nat) (O q:List Nat) (w:World) (hb:Blk w g O) (J:Na.OK O) (hl:off+N<=O.length) (hv:Blk w gv q) (H:Na.OK q) (K:gv≠g) (Y:q.length<=N) (V:off+N<=1000000):
 Calls prog 294 #[.slice (some ⟨g,off,none⟩) N c,.slice (some ⟨gv,0,none⟩) q.length P] w (ygX N off g O q w):=by
 obtain⟨M,mE,qI,R,Q,T⟩:=ts hb J hl hv H K;clear hb J hl hv H K;go_enter func294,ntmps294
 go_wp2_with fail
 go_loopw [4,9] (yo7 N off g O q w) (fun _ i _=>N-(intOf i).toNat)
 case atStart=>exact⟨0,0,O,iH _,rfl,rfl,by omega,M,aL rfl,mE,aL rfl,aL rfl,aL KT,aL (Onl.refl _ _)⟩
 case round=>
  obtain⟨k,a,o,U,rfl,rfl,W,cX,di,z,nG,r,C,s⟩:=hrel;by_cases X:k<N
  ·refine yi2 ?_;intro qp dq co fo gR
   have D:=aL (show Na.val ((O.drop off).take (k+1))=Na.val ((O.drop off).take k)+Na.B^k*O[off+k]'qp by rw[Na.ra _ k yK,Nk])
   obtain⟨x,I⟩: ∃ x,O[off+k]'qp=x:=⟨_,rfl⟩;rw[Na.ycm r.out cm dq qp] at co;rw[I] at co gR D;clear I;have u:k<(o.drop off).length :=yK;by_cases e:k<q.length
   ·have G:=R.out.onl s.out T.out;have c1:=G.cell k e;have F:q[k]'e<4294967296:=Q.out _ (pK e);have t:=aL (Na.ra q k e);obtain⟨y,E⟩: ∃ x,q[k]'e=x:=⟨_,rfl⟩;rw[E] at c1 F t;have j:=aL (MQ x y a gR F aG wr);have d:=Na.L0 (o.drop off) (O.drop off) q k x y a u C.out D.out t.out;rw[<-Na.drop_set] at d;have n:=aL d;have m:(x+y+a) / 4294967296<=1:=aG;have f:(x+y+a) % 4294967296<4294967296:=kk _ bL;obtain⟨v,hv⟩:=bx ((x+y+a) % 4294967296);obtain⟨A,b⟩: ∃ v,v=(x+y+a) / 4294967296:=⟨_,rfl⟩;rw[<-hv,<-b] at n j;rw[<-b] at m;rw[<-hv] at f;clear hv b E G d u;go_wp2_with (first|(go_at_call 291;refine cY j.out ?_))
    go_roundw
    case rel=>exact⟨k+1,A,o.set (off+k) v,by omega,by go_num,rfl,m,aL (cX.out.set _ _),aL tG,aL (Na.wa z.out _ _ f),aL GY,aL (Na.ybs r.out),n,aL (s.out.setCell _ _)⟩
    case measure=>simp[intOf];omega
   ·have t:=aL (Na.XK q k aG);have j:=aL (show Calls prog 291 #[.int .u32 x,.int .u32 0,.int .u32 a] wr _ from MQ x 0 a gR aG aG wr);have d:=Na.L0 (o.drop off) (O.drop off) q k x 0 a u C.out D.out t.out;rw[<-Na.drop_set] at d;have n:=aL d;have m:(x+0+a) / 4294967296<=1:=aG;have f:(x+0+a) % 4294967296<4294967296:=kk _ bL;obtain⟨v,hv⟩:=bx ((x+0+a) % 4294967296);obtain⟨A,b⟩: ∃ v,v=(x+0+a) / 4294967296:=⟨_,rfl⟩;rw[<-hv,<-b] at n j;rw[<-b] at m;rw[<-hv] at f;clear hv b d u;go_wp2_with (first|(go_at_call 291;refine cY j.out ?_))
    go_roundw
    case rel=>exact⟨k+1,A,o.set (off+k) v,by omega,by go_num,rfl,m,aL (cX.out.set _ _),aL tG,aL (Na.wa z.out _ _ f),aL GY,aL (Na.ybs r.out),n,aL (s.out.setCell _ _)⟩
    case measure=>simp[intOf];omega
  ·obtain rfl:k=N:=aG
   have S:=aL (show Na.val ((o.drop off).take k)+Na.B^k*a=Na.val ((O.drop off).take k)+Na.val q by
    have L:=C.out
    rwa[n0 (l:=q) aG] at L)
   go_wp2_with fail
   refine yai (Hl rfl _ _ _) rfl ?_;exact⟨rfl,s.out,o,a,cX.out,di.out,z.out,nG.out,r.out,S.out⟩

def ypq (N s g off:Nat) (O q:List Nat) (w:World) (cv a:Value) (wr:World):Prop:= ∃ (k c:Nat) (o:List Nat),k<=N/\a= .int .i64 k/\cv= .int .u64 c/\Hid (c<2^s)/\Hid (Blk wr g o)/\Hid (o.length=off+N)/\Hid (Na.OK o)/\Hid (o.take off=O.take off)/\
 Hid (Na.val ((o.drop off).take k)+Na.B^k*c=Na.val (q.take k)*2^s)/\Hid (Onl g w wr)
def yr3 (g off N c s z:Nat) (O q:List Nat) (a:Option Addr) (w:World) (hb:Blk w g O) (A:Na.OK O) (hl:O.length=off+N) (r: ∀ wr,Below g w wr->Sl wr a z q) (E:s<32) (hq:q.length<=1000000) (H:off+N<=1000000):
 Calls prog 220 #[.slice (some ⟨g,off,none⟩) N c,.slice a q.length z,.int .i64 s] w (fun e w'=>e= .returned (.tuple #[])/\Onl g w w'/\ ∃ o',Blk w' g o'/\o'.length=off+N/\Na.OK o'/\o'.take off=O.take off/\ ∃ cc,Na.val (o'.drop off)+Na.B^N*cc=Na.val (q.take N)*2^s):=by
 obtain⟨v,m,l,D⟩:=jv hb A hl r;clear hb A hl r;go_enter func220,ntmps220
 go_wp2_with fail
 go_loopw [6,10] (ypq N s g off O q w) (fun _ i _=>N-(intOf i).toNat)
 case atStart=>exact⟨0,0,O,iH _,rfl,rfl,aL (fp bL),v,l,m,aL rfl,aL KT,aL (Onl.refl _ _)⟩
 case round=>
  clear v m l;obtain⟨k,cc,o,G,rfl,rfl,HC,cX,di,eG,nG,bI,bF⟩:=hrel;by_cases L:k<N
  ·have dq:off+k<o.length:=xB;have I:=cX.out.cell (off+k) dq;have fo:=cX.out.frozen (off+k);by_cases b:k<q.length
   ·obtain⟨J,F,rfl,K,y⟩:=(D.out wr bF.out.below).plain aG;have c1:=y k b;have hx:=(D.out wr bF.out.below).lt k b;have C:=aL (Na.ra q k b);obtain⟨x,u⟩: ∃ x,q[k]'b=x:=⟨_,rfl⟩;rw[u] at c1 hx C;obtain⟨eA,f⟩:=Na.ylA cc x s E HC.out hx;have j:=Na.yfY cc x s HC.out eA;have mQ:=aL (Na.yd3 o q off k cc x s dq bI.out C.out);obtain⟨t,n⟩:=bx (cc+x*2^s);rw[<-n] at eA f j mQ;have d:=aL f;clear y u n f;go_wp2_with fail
    go_roundw
    case rel=>exact⟨k+1,t / 4294967296,o.set (off+k) (t % 4294967296),by omega,by go_num,by first|rfl|(rw[j];simp)|go_num,d,aL (by have:=cX.out.set (off+k) (t % 4294967296);first|exact this|(rw[j];exact this)),aL tG,aL (Na.wa eG.out _ _ aG),aL GY,mQ,aL (bF.out.setCell _ _)⟩
    case measure=>simp[intOf];omega
   ·refine yiG ?_;intro eA mQ e0;rw[e0] at mQ;have d:=aL (show cc / 4294967296<2^s by rw[t6 eA];exact fp bL);clear e0;go_wp2_with fail
    go_roundw
    case rel=>exact⟨k+1,cc / 4294967296,o.set (off+k) (cc % 4294967296),by omega,by go_num,by first|rfl|go_num,d,aL (by have:=cX.out.set (off+k) (cc % 4294967296);first|exact this|(rw[o0 eA] at this ⊢;exact this)),aL tG,aL (Na.wa eG.out _ _ aG),aL GY,mQ,aL (bF.out.setCell _ _)⟩
    case measure=>simp[intOf];omega
  ·obtain rfl:k=N:=aG;exact ylS

namespace Na
open Go
def yhN (U:List Nat) (j:Nat) (h:j<U.length):val (U.drop j)=U[j]+B*val (U.drop (j+1)):=by rw[xE h];rfl
def ydu (U:List Nat) (j k:Nat) (h:j+k<U.length):val ((U.drop j).take (k+1))=val ((U.drop j).take k)+B^k*U[j+k]:=by rw[ra _ k yK,Nk]
def Xb (U:List Nat) (h:OK U) (j k:Nat):val ((U.drop j).take k)<B^k:=by have a:=rf ((U.drop j).take k) (Au (yfa h j) k);exact eR a (hJ bL ycF)
def ytY (U V:List Nat) (j n:Nat) (hU:OK U) (hV:OK V) (t:V.length=n+2) (hj:j+n+2<U.length) (d c u2 v1 v2:Nat) (r:U[j+n+2]? =some d) (q:U[j+n+1]? =some c) (o:U[j+n]? =some u2) (l:V[n+1]? =some v1) (k:V[n]? =some v2) (hv:0<v1)
 (s:val (U.drop (j+1))<val V):
 Kn (val ((U.drop j).take (n+3))) (val V) (B^n) (d*B+c) u2 (val ((U.drop j).take n)) v1 v2 (val (V.take n))/\val (U.drop (j+n+3))=0:=by
 obtain⟨_,rfl⟩:=o6.1 r;obtain⟨_,rfl⟩:=o6.1 q;obtain⟨_,rfl⟩:=o6.1 o;obtain⟨_,rfl⟩:=o6.1 l;obtain⟨_,rfl⟩:=o6.1 k
 have i:val ((U.drop j).take (n+3))=((U[j+n+2]*B+U[j+n+1])*B+U[j+n])*B^n+val ((U.drop j).take n):=by rw[ydu U j (n+2) hj,ydu U j (n+1) aG,ydu U j n aG];simp only[show j+(n+2)=j+n+2 by omega,show j+(n+1)=j+n+1 by omega];rw[show B^(n+2)=B^n*B*B by rw[jM,jM],show B^(n+1)=B^n*B by rw[jM]];simp only[iW,lW,fM,vf,fB];omega
 have w:val V=(V[n+1]*B+V[n])*B^n+val (V.take n):=by have a:=ra V (n+1) aG;rw[n0 aG,ra V n aG] at a;rw[a,jM,iW,fB (B^n) B,fM (B^n) (B*V[n+1]),fM (B^n) V[n],fM B V[n+1]];omega
 have v:val V<B^(n+2):=by have:=rf V hV;rwa[t] at this
 have m:val (U.drop j)<val V*B:=by rw[yhN U j aG];have a:U[j]<B:=hU _ (pK _);have f:=nS B (show val (U.drop (j+1))+1<=val V from s);rw[lW,oU] at f;rw[fM (val V)];omega
 have b:=wW (U.drop j) (n+3) yK;rw[EQ,show j+(n+3)=j+n+3 by omega] at b
 have g:val (U.drop (j+n+3))=0:=by
  rcases ty (val (U.drop (j+n+3))) with h|h
  ·exact h
  ·exfalso;have a:=nS (B^(n+3)) h;have f:val V*B<=B^(n+3):=by rw[jM B (n+2)];exact iS B (lY v)
   omega
 have e:=Xb V hV 0 n;rw[sc] at e;have u:val (U.drop j)=val ((U.drop j).take (n+3)):=by rw[g,sr,ms] at b;exact b
 exact⟨⟨i,w,Xb U hU j n,e,hU _ (pK _),hV _ (pK _),hv,by rw[<-u];exact m⟩,g⟩
def yqP (U U' Q:List Nat) (j n X a r q A:Nat) (hl:U'.length=U.length) (hj:j+n+2<U.length) (s:j<Q.length) (i:U'.take j=U.take j) (hd:U'.drop (j+n+3)=U.drop (j+n+3)) (f:val (U.drop (j+n+3))=0)
 (m:val ((U.drop j).take (n+3))=X) (k:val ((U'.drop j).take (n+3))=r) (l:X=a*q+r) (g:val U+a*(B^(j+1)*val (Q.drop (j+1)))=A):
 val U'+a*(B^j*val ((Q.set j q).drop j))=A/\val (U'.drop j)=r:=by
 have e:=wW (U.drop j) (n+3) yK;have b:=wW (U'.drop j) (n+3) yK;rw[EQ,show j+(n+3)=j+n+3 by omega,f,sr,ms,m] at e;rw[EQ,show j+(n+3)=j+n+3 by omega,hd,f,sr,ms,k] at b;refine⟨?_,b⟩;have d:=wW U j aG;have c:=wW U' j aG;rw[e] at d;rw[b,i] at c
 have o:val ((Q.set j q).drop j)=q+B*val (Q.drop (j+1)):=by rw[yhN _ j (by rw[yx];exact s),yfl,ybc,bT aG]
 rw[o,c,<-g,d,l];simp only[lW,jM];rw[fB (B^j) B,vf (B^j) a q];omega
def yvy (U Q d a b s:Nat) (hb:d=b*2^s) (g:U<d) (h:U+d*(1*Q)=a*2^s):Q=a / b/\U / 2^s=a % b:=by
 have c:0<2^s:=fp bL
 have j:0<b:=by
  rcases ty b with h|h
  ·rw[h,qo] at hb;omega
  ·exact h
 rw[nW,hb] at h;rw[hb] at g
 have i:U / 2^s+b*Q=a:=by
  have e:(U+b*2^s*Q) / 2^s=a:=by rw[h];exact ydg _ c
  rw[qV,Nat.add_mul_div_right _ _ c] at e;exact e
 have f:U / 2^s<b:=by rw[wm c];exact g
 rw[<-i];constructor
 ·rw[KM _ _ j,t6 f];omega
 ·rw[E5,o0 f]
def ynC (U:List Nat) (k L N b s:Nat) (hl:k<=U.length) (e:val U=L*2^s) (a:L<B^(N+k)) (hb:B^N<=b):val (U.drop k)<b*2^s:=by
 have i:=wW U k hl;have d:0<B^k:=fp bL
 have c:B^k*val (U.drop k)<B^k*(b*2^s):=by
  have g:L*2^s<B^(N+k)*2^s:=jd a (fp bL)
  have f:B^(N+k)*2^s<=B^k*(b*2^s):=by rw[lR,fM (B^N),fB];exact nS _ (iS _ hb)
  omega
 exact Nat.lt_of_mul_lt_mul_left c
end Na

namespace Fl
open Go
def n256:Nat:=256
def Mid (n:Nat):Prop:=(Na.cl n).length <=256
def yqw {n k:Nat} (h:n<2^(32*k)) (a:k<=256):Mid n:=by rw[yc,show(2:Nat)^32=Na.B from rfl] at h;exact dE (Na.F1 _ _ h) a
def yb8 {n k:Nat} (h:n<2^k) (a:k<=8192):Mid n:=
 yqw (k:=n256) (eR h (hJ bL (by unfold n256;omega))) (by unfold n256;omega)
def yaa {n:Nat} (h:Na.bitLen n<=8192):Mid n:=by
 by_cases a:n=0
 ·subst a;unfold Mid;rw[Na.rY];simp
 ·exact yb8 (rh a).2.1 h
def yg3 {n m:Nat} (h:n<=m) (hm:Mid m):Mid n:=by unfold Mid at hm ⊢;exact(Na.Da _ _).2 (wx h ((Na.Da _ _).1 hm))
def Nv {n:Nat} (h:Mid n):Na.big (Na.cl n)=false:=by rw[Na.big,Na.PU];exact eL (by unfold Mid at h;omega)
def yba (j:Nat):10^j<=2^(4*j):=by rw[yc];exact yaB bL _
def MT {n k:Nat} (h:n<2^k):Na.bitLen n<=k:=Na.yeT h
def ypt {N s X k:Nat} (b:N<10^s) (h:s<=X+n310):N*2^k / 10^X<2^(4*n310+k):=by rw[wm (fp bL)];have a:N*2^k<10^(X+n310)*2^k:=jd (eR b (hJ bL h)) (fp bL);have c:10^n310*(2^k*10^X)<=2^(4*n310)*(2^k*10^X):=iS _ (yba n310);rw[lR,fM (10^X),fB,fM (10^X)] at a;rw[lR,fB];exact eR a c
def OM (j:Nat):Na.bitLen (10^j)<=4*j+1:=
 MT (wx (yba j) (yal bL aG))
def Kw {j:Nat} (hj:j<=2000):Mid (10^j):=yaa (by have:=OM j;omega)
def ycO {j:Nat} (hj:j<=2000):Na.pow 10 (j:Int)=(Na.cl (10^j),0):=by have h:=Kw hj;rw[Na.pow,bv aG,bv aG,jJ,show(10:Int).toNat =10 from rfl,Na.fits,bv (by unfold Mid at h;omega)]
def yfI {n k:Nat} (a:n≠0) (h:Na.bitLen n+k<=8192):Na.shl (Na.cl n) (k:Int)=(Na.cl (n*2^k),0):=by rw[Na.shl,bv aG,Nv (yaa aG),bv cn,Na.nK,bv a,bv aG,jJ]
def ypD {n k:Nat} (h:Mid n):Na.shr (Na.cl n) (k:Int)=(Na.cl (n / 2^k),decide (n % 2^k≠0),0):=by rw[Na.shr,bv aG,Nv h,bv cn,Na.nK,jJ]
def yku {n m:Nat} (hn:Mid n) (hm:Mid m) (a:m≠0):Na.sW (Na.cl n) (Na.cl m)=(Na.cl (n / m),Na.cl (n % m),0):=by rw[Na.sW,Nv hn,Nv hm,bv cn,Na.nK,Na.nK,bv a]
def yqb {n m:Nat} (hn:Mid n) (hm:Mid m) (h:Mid (n*m)):Na.mul (Na.cl n) (Na.cl m)=(Na.cl (n*m),0):=by rw[Na.mul,Nv hn,Nv hm,bv cn,Na.nK,Na.nK,Na.fits,bv (by unfold Mid at h;omega)]
def ywi {n k:Nat} (a:n≠0):n*2^k<2^(Na.bitLen n+k):=by rw[lR];exact jd (rh a).2.1 (fp bL)
def ydL (j:Nat):10^j≠0:=L9 (fp bL)
def yuZ {j:Nat} (hj:0<j):pwE (-(j:Int))= -((Na.bitLen (10^j):Int)+127)/\pwP (-(j:Int))=1*2^(Na.bitLen (10^j)+127) / 10^j/\pwA (-(j:Int))=false:=by
 have e:(-(-(j:Int))).toNat =j:=aG;refine⟨?_,?_,?_⟩
 ·rw[pwE,bT aG,e]
 ·rw[pwP,bT aG,e,nW]
 ·rw[pwA,bT aG]
def ytn {j:Nat} {e:Int} (b:e=(Na.bitLen (10^j):Int)-128):pwE (j:Int)=e/\(e<=0->pwP (j:Int)=10^j*2^(-e).toNat /\pwA (j:Int)=true)/\
 (0<e->pwP (j:Int)=10^j / 2^e.toNat/\pwA (j:Int)=!decide (10^j % 2^e.toNat≠0)):=by
 have a:pwE (j:Int)=e:=by rw[pwE,bv aG,jJ,b]
 refine⟨a,fun h=>⟨?_,?_⟩,fun h=>⟨?_,?_⟩⟩
 ·rw[pwP,bv aG,a,bT h,jJ]
 ·rw[pwA,bv aG,a,bT h]
 ·rw[pwP,bv aG,a,bv aG,jJ]
 ·rw[pwA,bv aG,a,bv aG,jJ]
end Fl

def Fl.Rk (x m k:Nat) (hx:x<18446744073709551616) (hm:m=2^k-1) (a:k<=63):Go.bits BinOp.and IntKind.u64 (x:Int) (m:Int)=((x % 2^k:Nat):Int):=by have b:2^k<=2^63:=hJ bL a;rw[yem x m hx aG,hm,ybY]
def Fl.yll (x:Nat) (hx:x<18446744073709551616):Go.bits BinOp.and IntKind.u64 ((x / 4503599627370496:Nat):Int) 2047=(Fl.expo x:Int):=Fl.Rk _ 2047 11 aG bL bL
def Fl.ygL (x:Nat) (hx:x<18446744073709551616):Go.bits BinOp.and IntKind.u64 (x:Int) 4503599627370495=(Fl.frac x:Int):=Fl.Rk _ 4503599627370495 52 hx bL bL
def Fl.ynA (f:Nat) (h:f<4503599627370496):Go.bits BinOp.or IntKind.u64 4503599627370496 (f:Int)=((4503599627370496+f:Nat):Int):=by rw[show(4503599627370496:Int)=((4503599627370496:Nat):Int) by rfl,Il _ _ bL aG];congr 1;have:=Yj (show f<2^52 by omega) 1;rw[oU] at this;exact this.symm
def Fl.yuD (x:Nat):(Fl.expo x=2047/\Fl.frac x=0/\Fl.kind x=3)∨(Fl.expo x=2047/\Fl.frac x≠0/\Fl.kind x=4)∨(Fl.expo x≠2047/\0<Fl.expo x/\Fl.kind x=2)∨(Fl.expo x=0/\0<Fl.frac x/\Fl.kind x=1)∨(Fl.expo x=0/\Fl.frac x=0/\Fl.kind x=0):=by
 by_cases b:Fl.expo x=2047
 ·by_cases a:Fl.frac x=0
  ·exact Or.inl ⟨b,a,by rw[Fl.kind,bT b,bT a]⟩
  ·exact Or.inr (Or.inl ⟨b,a,by rw[Fl.kind,bT b,bv a]⟩)
 ·by_cases a:0<Fl.expo x
  ·exact Or.inr (Or.inr (Or.inl ⟨b,a,by rw[Fl.kind,bv b,bT a]⟩))
  ·by_cases c:0<Fl.frac x
   ·exact Or.inr (Or.inr (Or.inr (Or.inl ⟨by omega,c,by rw[Fl.kind,bv b,bv a,bT c]⟩)))
   ·exact Or.inr (Or.inr (Or.inr (Or.inr ⟨by omega,by omega,by rw[Fl.kind,bv b,bv a,bv c]⟩)))
def yam (x:Nat) (hx:x<18446744073709551616) (w:World):Calls prog 106 #[.int .u64 x] w (Ret0 (.int .i64 (Fl.kind x:Nat)) w):=by
 have g:=Fl.yll x hx;have m:=Fl.ygL x hx;have i:=Fl.yuD x;have j:=Fl.yck x;have l:=Fl.yaC x;obtain⟨q,hq⟩:=bx (x / 4503599627370496);have r:(x:Int) / 4503599627370496=(q:Int):=aG;rw[<-hq] at g;obtain⟨e,b⟩:=bx (Fl.expo x);obtain⟨f,a⟩: ∃ e,e=Fl.frac x:=⟨_,rfl⟩;obtain⟨k,d⟩: ∃ e,e=Fl.kind x:=⟨_,rfl⟩;rw[<-b,<-a,<-d] at i;rw[<-b] at g j;rw[<-a] at m l;rw[<-d];clear b a d hq;rcases i with ⟨rfl,rfl,rfl⟩|⟨rfl,c,rfl⟩|⟨n,c,rfl⟩|⟨rfl,c,rfl⟩|⟨rfl,rfl,rfl⟩
 ·go_enter func106,ntmps106
  exact yj
 ·have b2:((f:Int)==0)=false:=by simpa using c
  go_enter func106,ntmps106
  exact yj
 ·have o:((e:Int)==2047)=false:=pp;go_enter func106,ntmps106
  exact yj
 ·go_enter func106,ntmps106
  exact yj
 ·go_enter func106,ntmps106
  exact yj
def Fl.ync (x:Nat):decide ((9223372036854775808:Int)<=(x:Int))=Fl.neg x:=by rw[Fl.neg];apply sd.2;omega
def Fl.yg1 (x:Nat):(Fl.kind x<2/\Fl.mant x=Fl.frac x/\Fl.expn x= -1074)∨(Fl.kind x=2/\Fl.mant x=4503599627370496+Fl.frac x/\Fl.expn x=(Fl.expo x:Int)-1075)∨(3<=Fl.kind x/\Fl.mant x=0/\Fl.expn x=0):=by
 rcases ydP (Fl.kind x) 2 with h|h|h
 ·exact Or.inl ⟨h,by rw[Fl.mant,bv aG,bT h],by rw[Fl.expn,bv aG,bT h]⟩
 ·exact Or.inr (Or.inl ⟨h,by rw[Fl.mant,bT h],by rw[Fl.expn,bT h]⟩)
 ·exact Or.inr (Or.inr ⟨h,by rw[Fl.mant,bv aG,bv aG],by rw[Fl.expn,bv aG,bv aG]⟩)
def ydH (x:Nat) (hx:x<18446744073709551616) (w:World):Calls prog 138 #[.int .u64 x] w (Ret0 (.tuple #[.bool (Fl.neg x),.int .u64 (Fl.mant x:Nat),.int .i64 (Fl.expn x)]) w):=by
 have n:=Fl.yll x hx;have u:=Fl.ygL x hx;have o:=Fl.yg1 x;have t:=Fl.yck x;have l:=Fl.yaC x;have r:=Fl.ynA _ l;have hn:=Fl.ync x;have d:=yam x hx;obtain⟨q,hq⟩:=bx (x / 4503599627370496);have C:(x:Int) / 4503599627370496=(q:Int):=aG;rw[<-hq] at n;obtain⟨e,c⟩:=bx (Fl.expo x);obtain⟨f,b⟩: ∃ e,e=Fl.frac x:=⟨_,rfl⟩;obtain⟨k,i⟩: ∃ e,e=Fl.kind x:=⟨_,rfl⟩;obtain⟨m,hm⟩: ∃ e,e=Fl.mant x:=⟨_,rfl⟩;obtain⟨ex,g⟩: ∃ e,e=Fl.expn x:=⟨_,rfl⟩;obtain⟨s,a⟩: ∃ e,e=Fl.neg x:=⟨_,rfl⟩;rw[<-c,<-b,<-i,<-hm,<-g] at o;rw[<-c] at n t;rw[<-b] at u l r;rw[<-i] at d;rw[<-a] at hn;rw[<-hm,<-g,<-a];have j:=aL d;clear c b i hm g a hq d;rcases o with ⟨y,rfl,rfl⟩|⟨rfl,rfl,rfl⟩|⟨y,rfl,rfl⟩
 ·have z:k=0∨k=1:=aG;rcases z with rfl|rfl
  all_goals(
   go_enter func138,ntmps138
   go_wp2_with (go_at_call 106;refine cY (j.out _) ?_)
   refine eB (v:= .tuple #[.bool s,.int .u64 m,.int .i64 (-1074)]) (by simp[results,results138,go_sem]) rfl (Ret0.of rfl))
 ·go_enter func138,ntmps138
  go_wp2_with (go_at_call 106;refine cY (j.out _) ?_)
  refine eB (v:= .tuple #[.bool s,.int .u64 ((4503599627370496+f:Nat):Int),.int .i64 ((e:Int)-1075)]) (by simp[results,results138,go_sem,r]) rfl (Ret0.of rfl)
 ·have B:((k:Int)==0)=false:=pp;have A:((k:Int)==1)=false:=pp;have b2:((k:Int)==2)=false:=pp;go_enter func138,ntmps138
  go_wp2_with (go_at_call 106;refine cY (j.out _) ?_)
  refine eB (v:= .tuple #[.bool s,.int .u64 0,.int .i64 0]) (by simp[results,results138,go_sem]) rfl (Ret0.of rfl)



def ybe (w:World) (s:ByteArray) (pos:Nat):Below w.heap.size w (w.iter s pos):=ek
def yoF (s:ByteArray) (k:Nat) (h:k<s.size) (p:UInt8->Bool) (a:p s[k]=false):s.data.toList.all p=false:=by rw[List.all_eq_false];exact⟨s[k],yfn (bs_getElem? s k h),by simp[a]⟩
def yaz (s:ByteArray) (w:World):
 Calls prog 143 #[.string s] w (RetB (.bool (Dc.dD s.data.toList)) w):=by
 obtain⟨n,d⟩: ∃ b,b=Dc.dD s.data.toList:=⟨_,rfl⟩;rw[<-d];have j:=aL d;clear d;go_enter func143,ntmps143
 go_wp2_with fail
 go_loopw [] (fun wr=> ∃ pos:Nat,pos<=s.size/\wr=w.iter s pos/\(s.data.toList.take pos).all Dc.cu=true) (fun wr=>s.size-wr.iterPos w.heap.size)
 case atStart=>exact⟨0,iH _,rfl,rfl⟩
 case round=>
  obtain⟨pos,o,rfl,g⟩:=hrel;have k:=aL g;clear g;by_cases c:pos<s.size
  ·have m:=aL (ypI s pos c Dc.cu);have i:Dc.cu s[pos]=false->false=n:=fun h=>by rw[j.out];exact(yoF s pos c _ h).symm
   have e:=aL i;clear i;by_cases l:(s[pos]'c).toNat <128
   ·have f: ∀ a,(Instr.next (.pointer (some ⟨w.heap.size,0,none⟩)) true a).run prog (w.iter s pos)=_:=fun a=>run_next_ascii w s pos a c l;go_wp2
    ·go_ret
     exact RetB.of (dZ Value.bool (e.out (by simp[Dc.cu];omega))) (ybe _ _ _)
    ·go_roundw
     case rel=>exact⟨pos+1,by omega,rfl,by rw[m.out,k.out];simp[Dc.cu];omega⟩
     case measure=>simp;omega
    ·go_ret
     exact RetB.of (dZ Value.bool (e.out (by simp[Dc.cu];omega))) (ybe _ _ _)
   ·have hd:=decode_high s pos c aG;have f: ∀ a,(Instr.next (.pointer (some ⟨w.heap.size,0,none⟩)) true a).run prog (w.iter s pos)=_:=fun a=>run_next_any w s pos a c;go_wp2
    all_goals go_ret
    all_goals exact RetB.of (dZ Value.bool (e.out (by simp[Dc.cu];omega))) (ybe _ _ _)
  ·have f: ∀ a,(Instr.next (.pointer (some ⟨w.heap.size,0,none⟩)) true a).run prog (w.iter s pos)=_:=fun a=>run_next_end w s pos a c;go_wp2
   go_ret
   exact RetB.of (dZ Value.bool (by have h:=k.out;rw[n0 pp] at h;rw[j.out];exact h.symm)) (ybe _ _ _)
def EE (n:Bool) (s:ByteArray) (x:Int) (w:World) (m:s.size<=9223372036854775807):
 Calls prog 112 #[.agg #[.bool n,.string s,.int .i64 x]] w (RetB (.bool (Dc.right s.data.toList x)) w):=by
 obtain⟨l,g⟩: ∃ b,b=Dc.right s.data.toList x:=⟨_,rfl⟩;rw[<-g];have f:=aL g;clear g;refine G6 ?_;intro aw;by_cases d:s.size=0
 ·have o:=pB d;have r:=aL d;clear d;go_enter func112,ntmps112
  go_wp2_with fail
  go_ret
  exact RetB.of (dZ Value.bool (by rw[f.out,Dc.ymt _ _ (by simpa using r.out)])) aw
 ·have a:0<s.size:=aG;have o:=oj a;clear d;have j:(1100<s.size∨x < -100000∨100000<x∨(s[0].toNat :Int)=48∨(s[s.size-1].toNat :Int)=48)->false=l:=fun h=>by rw[f.out];exact(Dc.yw2 s x a h).symm
  have i:=aL j;clear j;go_enter func112,ntmps112
  go_wp2_with (first|(go_at_call 143;refine(yaz _ _).mono ?_;rintro e t ⟨rfl,hb2⟩;obtain⟨v,u⟩:=VO hb2)|(go_at_call 144;refine(strings_HasSuffix _ _ _ m).mono ?_;rintro e w' ⟨rfl,rfl⟩))
  all_goals go_ret
  ·have c:Dc.dD s.data.toList=true:=lI;have hz:(s[0].toNat :Int)=48:=lI;exact RetB.of (dZ Value.bool (i.out aG)) (aw.trans (hb2.mono cn))
  ·have c:Dc.dD s.data.toList=true:=lI;have hz: ¬ (s[0].toNat :Int)=48:=lI;refine RetB.of (dZ Value.bool ?_) (aw.trans (hb2.mono cn));have q:((s[0].toNat :Int) != 48)=true:=by simpa using hz
   show(((s[0].toNat :Int) != 48)&&!(Lib.hasSuffix s.data.toList [48]))=l;rw[q,gA,Dc.yun s a];by_cases hl:(s[s.size-1].toNat :Int)=48
   ·rw[fv hl];exact i.out aG
   ·rw[eL hl,f.out,Dc.ypv s x a aG aG aG hz hl c];rfl
  ·have c: ¬ Dc.dD s.data.toList=true:=lI;refine RetB.of (dZ Value.bool ?_) (aw.trans (hb2.mono cn));rw[f.out,Dc.ytK s x a (by simpa using c)]
  all_goals exact RetB.of (dZ Value.bool (i.out aG)) aw
def W3 (n:Bool) (s:ByteArray) (x:Int) (w:World) (d:s.size<=9223372036854775807):
 Calls prog 113 #[.agg #[.bool n,.string s,.int .i64 x]] w (RetB (.int .i64 (Dc.oT s.data.toList x)) w):=by
 refine G6 ?_;intro aw;obtain⟨b,a⟩:=bx (Dc.right s.data.toList x);have c:=Dc.yeF s x;have HP:=aL c;clear c;have hd:=EE n s x (w.alloc (Obj.cells #[Value.bool n,Value.string s,Value.int IntKind.i64 x] 139)) d;rw[<-a] at hd;have hx:b=true-> -100000<=x/\x<=100000/\s.size<=1100:=fun h=>by rw[a] at h;exact⟨(Dc.sj h).1,(Dc.sj h).2,by have:=Dc.xW h;simpa using this⟩
 cases b
 ·obtain⟨HD,HR⟩:=dY hd a;clear hd a;exact ylu
 ·obtain⟨HD,HR⟩:=dY hd a;clear hd a;have f:=hx rfl;clear hx;exact ylu





section
section
variable (a:Option Addr) (c:Nat) (l:List Nat) (w:World) (h:Sl w a c l) (hz:a=none->c=0) (hn:l.length<=1000000)
include h hz hn
end
end







namespace Fx
open Dc (Bs cu dD jQ)
def fold (a:Nat) (l:Bs):Nat:=l.foldl (fun a c=>10*a+(c.toNat-48)) a
def ywy (l:Bs) (a:Nat):a<=fold a l:=by
 induction l generalizing a with
 |nil=>exact cm
 |cons c l b=>have:=b (10*a+(c.toNat-48));unfold fold at this ⊢;rw[uU];omega
def yfC (c:UInt8):cu c=true↔48<=c.toNat/\c.toNat<=57:=by have h: ∀ i:Fin 256,cu (UInt8.ofNat i.1)=true↔48<=(UInt8.ofNat i.1).toNat /\(UInt8.ofNat i.1).toNat <=57:=tX;exact yah
def yi7 (l:Bs) (hd:l.all cu=true) (a:Nat):l.foldl (fun a c=>10*a+((c.toNat:Int)-48)) (a:Int)=(fold a l:Nat):=by
 induction l generalizing a with
 |nil=>rfl
 |cons c l b=>
  rw[qb,fs] at hd
  have d:=(yfC c).1 hd.1
  unfold fold
  rw[uU,uU,show(10*(a:Int)+((c.toNat:Int)-48))=((10*a+(c.toNat-48):Nat):Int) by omega,b hd.2]
  rfl
def yrT (l:Bs) (hd:l.all cu=true) (a:Nat) (i:a<18446744073709551616):(Lib.parseUint10 a l= .ok (fold a l)/\fold a l<18446744073709551616)∨(Lib.parseUint10 a l= .range /\18446744073709551616<=fold a l):=by
 induction l generalizing a with
 |nil=>exact .inl ⟨rfl,i⟩
 |cons c l f=>
  rw[qb,fs] at hd
  have g:=(yfC c).1 hd.1
  have e:fold a (c::l)=fold (10*a+(c.toNat-48)) l:=rfl
  have j:=ywy l (10*a+(c.toNat-48))
  rw[Lib.parseUint10,bT g,e]
  by_cases d:1844674407370955162<=a
  ·rw[bT d];exact .inr ⟨rfl,by omega⟩
  ·rw[bv d]
   by_cases b:18446744073709551616<=a*10+(c.toNat-48)
   ·rw[bT b];exact .inr ⟨rfl,by omega⟩
   ·rw[bv b,fM a 10]
    exact f hd.2 _ aG
def yvA (l:Bs) (hd:l.all cu=true) (f:l≠[]):(Lib.atoiAll l= .ok (jQ l)/\0<=jQ l/\jQ l<9223372036854775808)∨(Lib.atoiAll l= .range /\9223372036854775808<=jQ l):=by
 have hn:jQ l=(fold 0 l:Nat):=yi7 l hd 0;rw[hn]
 cases l with
 |nil=>exact absurd rfl f
 |cons c r=>
  have g:48<=c.toNat/\c.toNat<=57:=by rw[qb,fs] at hd;exact(yfC c).1 hd.1
  have b: ¬ (c.toNat=43∨c.toNat=45):=aG
  have d: ¬ c.toNat=45:=aG
  unfold Lib.atoiAll
  simp only[]
  rw[bv b,Lib.parseMag,bv cn]
  rcases yrT (c::r) hd 0 bL with ⟨e,h⟩|⟨e,h⟩
  ·rw[e]
   simp only[d,not_false_eq_true,true_and,false_and,pI]
   by_cases a:9223372036854775808<=fold 0 (c::r)
   ·right;rw[bT a];exact⟨rfl,by omega⟩
   ·left;rw[bv a];exact⟨rfl,by omega,by omega⟩
  ·rw[e];right;exact⟨rfl,by omega⟩
def sgn:Bs->Bool|d::_=>d==43 || d==45 | []=>false
def ngn:Bs->Bool|d::_=>d==45 | []=>false
def yuz {c:UInt8} (r:Bs) (f:c=101∨c=69):expo (c::r)=if(if sgn r then r.drop 1 else r).takeWhile cu=[] then(0,c::r) else
 (if ngn r then-upTo ((if sgn r then r.drop 1 else r).takeWhile cu) else upTo ((if sgn r then r.drop 1 else r).takeWhile cu),(if sgn r then r.drop 1 else r).dropWhile cu):=by
 unfold expo;simp only;rw[bT f]
 cases r with
 |nil=>rfl
 |cons d q=>
  simp only[]
  by_cases hd:d=43∨d=45
  ·have e:sgn (d::q)=true:=by rcases hd with rfl|rfl<;>rfl
   rw[bT hd,e]
   simp only[lG,P3,sc]
   by_cases a:d=45
   ·subst a;rfl
   ·have b:ngn (d::q)=false:=by simp[ngn,a]
    rw[bv a,b];rfl
  ·have e:sgn (d::q)=false:=by simp only[not_or] at hd;simp[sgn,hd.1,hd.2]
   have b:ngn (d::q)=false:=by simp only[not_or] at hd;simp[ngn,hd.2]
   rw[bv hd,e,b]
   simp
def yhq (D:UInt8) (s:Bs):(mant D s).2.1 <=s.length:=by
 unfold mant;split
 ·rename_i r h
  have:=N1 h;have a:=zU cu s;have b:=(List.takeWhile_prefix (p:=cu) (l:=r)).length_le;rw[this] at a;simp only[gE] at a ⊢;omega
 ·exact iH _
end Fx

namespace Fx
open Dc (Bs cu)
def yp1 {D L:UInt8} {op:Nat} {l m:Bs} (h:tok D L l=tok D L m):vz D L op l=vz D L op m:=by rw[sS op l,sS op m,no,no,h]
def ytc {D L:UInt8} {op:Nat} {l m:Bs} (h:tok D L l=tok D L m):yA D L op l=yA D L op m:=by rw[J5 op l,J5 op m,yp1 h,h]
def yik {D L:UInt8} {op:Nat} {l m:Bs} (h:tok D L l=tok D L m): ∀ k n:Nat,n+k=6->1<=n->jr D L n op l=jr D L n op m:=by
 intro k
 induction k with
 |zero=>
  intro n hn _;have:n=6:=aG
  subst this;rw[OJ,OJ,ytc h]
 |succ k b=>intro n hn a;rw[LD op l a aG,LD op m a aG,b (n+1) aG aG]
def ybf (s:Bs):skip (32::s)=skip s:=by
 rw[skip]
 ·rw[bT cn]
 ·intro t e;simp at e
def Ed (D L:UInt8) (l:Bs):(tok D L l).at'.length <=l.length:=by rw[yuw];exact yP l
def ypz {N:Nat} {D L:UInt8} {t:Tk} {e:Int} {p:Bs} (h:word D L t= .er e p) (d:t.at'.length<=N) (g:t.end'.length<=N):e≠0/\p.length<=N:=by
 unfold word at h;split at h
 ·simp at h
 ·split at h
  ·rename_i c
   injection h with b a;rw[<-b,<-a];exact⟨c,d⟩
  ·split at h
   ·rename_i i
    have a0:=KR D L t.end';simp only at h;split at h
    ·unfold no at h;injection h with b a;have f:=Ed D L (tok D L t.end').end';rw[<-b,<-a];exact⟨by decide,by omega⟩
    ·split at h
     ·rename_i c
      injection h with b a;have f:=Ed D L (tok D L t.end').end';rw[<-b,<-a];exact⟨c,by omega⟩
     ·simp at h
   ·simp at h
def ylH (D L:UInt8) (f:Nat):(∀ n op l e p,expr D L f n op l= .er e p->e≠0/\p.length<=l.length)/\(∀ n op g l e p,loop D L f n op g l= .er e p->e≠0/\p.length<=l.length)/\
 (∀ op l e p,nE D L f op l= .er e p->e≠0/\p.length<=l.length)/\(∀ g l e p,post D L f g l= .er e p->e≠0/\p.length<=l.length)/\(∀ op l e p,nl D L f op l= .er e p->e≠0/\p.length<=l.length)/\
 (∀ op r l e p,call D L f op r l= .er e p->e≠0/\p.length<=l.length)/\(∀ op r ks l e p,args D L f op r ks l= .er e p->e≠0/\p.length<=l.length):=by
 induction f with
 |zero=>refine⟨?_,?_,?_,?_,?_,?_,?_⟩<;>intros<;>rename_i h<;>simp only[expr,loop,nE,post,nl,call,args] at h<;>injection h with c a<;>rw[<-c,<-a]<;>exact⟨by decide,cm⟩
 |succ f z=>
  obtain⟨t,x,w,v,B,A,u⟩:=z
  obtain⟨s,J,I,H,y,G,F⟩:=ybH D L f
  refine⟨?_,?_,?_,?_,?_,?_,?_⟩
  ·intro n op l e p h
   rw[expr] at h
   split at h
   ·exact w _ _ _ _ h
   ·split at h
    ·rename_i d j c
     have o:=s _ _ _ _ _ c
     have m:=x _ _ _ _ _ _ h
     exact⟨m.1,by omega⟩
    ·rename_i d q c
     injection h with a b
     have:=t _ _ _ _ _ c
     rw[<-a,<-b];exact this
  ·intro n op g l e p h
   rw[loop] at h
   split at h
   ·rename_i i
    have a0:=oV i.1
    split at h
    ·rename_i d j c
     have o:=s _ _ _ _ _ c
     have m:=x _ _ _ _ _ _ h
     exact⟨m.1,by omega⟩
    ·rename_i d q c
     injection h with a b
     have:=t _ _ _ _ _ c
     rw[<-a,<-b];exact⟨this.1,by omega⟩
   ·simp at h
  ·intro op l e p h
   rw[nE] at h
   split at h
   ·rename_i i
    have a0:=oV i.1
    split at h
    ·injection h with a b;rw[<-a,<-b];exact⟨by decide,Ed D L l⟩
    ·split at h
     ·simp at h
     ·rename_i d q c
      injection h with a b
      have:=w _ _ _ _ c
      rw[<-a,<-b];exact⟨this.1,by omega⟩
   ·split at h
    ·rename_i d j c
     have o:=y _ _ _ _ c
     have m:=v _ _ _ _ h
     exact⟨m.1,by omega⟩
    ·rename_i d q c
     injection h with a b
     have:=B _ _ _ _ c
     rw[<-a,<-b];exact this
  ·intro g l e p h
   rw[post] at h
   split at h
   ·rename_i i
    have a0:=oV i.1
    have o:=v _ _ _ _ h
    exact⟨o.1,by omega⟩
   ·simp at h
  ·intro op l e p h
   have k:=Ed D L l
   have C:=KR D L l
   rw[nl] at h
   (try simp only at h)
   split at h
   ·split at h
    ·simp at h
    ·injection h with a b;rw[<-a,<-b];exact⟨by decide,k⟩
   ·split at h
    ·split at h
     ·injection h with a b;rw[<-a,<-b];exact⟨by decide,k⟩
     ·simp at h
    ·split at h
     ·simp at h
     ·split at h
      ·split at h
       ·split at h
        ·have:=A _ _ _ _ _ h;exact⟨this.1,by omega⟩
        ·injection h with a b;rw[<-a,<-b];exact⟨by decide,k⟩
       ·exact ypz h k C
      ·split at h
       ·rename_i i
        have a0:=oV i.1
        split at h
        ·injection h with a b;rw[<-a,<-b];exact⟨by decide,k⟩
        ·split at h
         ·rename_i d j c
          have o:=s _ _ _ _ _ c
          split at h
          ·simp at h
          ·unfold no at h
           injection h with a b
           have:=Ed D L j
           rw[<-a,<-b];exact⟨by decide,by omega⟩
         ·rename_i d q c
          injection h with a b
          have:=t _ _ _ _ _ c
          rw[<-a,<-b];exact⟨this.1,by omega⟩
       ·unfold no at h
        injection h with a b;rw[<-a,<-b];exact⟨by decide,k⟩
  ·intro op r l e p h
   rw[call] at h
   have E:=Ed D L l
   have K:=KR D L l
   split at h
   ·injection h with a b;rw[<-a,<-b];exact⟨by decide,E⟩
   ·split at h
    ·simp at h
    ·have:=u _ _ _ _ _ _ h;exact⟨this.1,by omega⟩
  ·intro op r ks l e p h
   rw[args] at h
   split at h
   ·rename_i d j c
    have o:=s _ _ _ _ _ c
    have M:=Ed D L j
    (try simp only at h)
    split at h
    ·rename_i i
     have m:=oV i.1
     split at h
     ·simp at h
     ·split at h
      ·injection h with a b;rw[<-a,<-b];exact⟨by decide,by omega⟩
      ·have:=u _ _ _ _ _ _ h;exact⟨this.1,by omega⟩
    ·unfold no at h
     injection h with a b;rw[<-a,<-b];exact⟨by decide,by omega⟩
   ·rename_i d q c
    injection h with a b
    have:=t _ _ _ _ _ c
    rw[<-a,<-b];exact this
def ybr (D L:UInt8) (s:Bs):(∃ t,parse D L s=(some t,0,0))∨ ∃ (e:Int) (p:Nat),parse D L s=(none,e,(p:Int))/\e≠0/\p<=s.length:=by
 unfold parse;split
 ·exact .inr ⟨4,0,rfl,by decide,iH _⟩
 ·split
  ·split
   ·exact .inr ⟨13,_,rfl,by decide,Nat.sub_le _ _⟩
   ·split
    ·exact .inr ⟨5,0,rfl,by decide,iH _⟩
    ·split
     ·exact .inr ⟨7,0,rfl,by decide,iH _⟩
     ·exact .inl ⟨_,rfl⟩
  ·rename_i e l h
   exact .inr ⟨e,_,rfl,((ylH D L _).1 _ _ _ _ _ h).1,Nat.sub_le _ _⟩
def ysk (D L:UInt8) (s:Bs) (i:s.length<=990) (e p:Int) (h:parse D L s=(none,e,p)):
 parse D L (32::32::s)=(none,e,p+2)∨(parse D L (32::32::s)=(none,e,p)/\p=0/\e≠13):=by
 have d:tok D L (32::32::s)=tok D L s:=by unfold tok;rw[ybf,ybf]
 rw[V0] at h ⊢;simp only[gE];rw[bv aG] at h ⊢;rw[yik d 5 1 rfl cm]
 cases hx:jr D L 1 0 s with
 |ok t l=>
  rw[hx] at h
  have g:=Iw hx
  have k:=Ed D L l
  simp only at h ⊢
  by_cases a:(tok D L l).kind ≠0
  ·rw[bT a] at h ⊢
   left
   simp only[st,true_and] at h ⊢
   obtain⟨f,j⟩:=h
   exact⟨f,by omega⟩
  ·rw[bv a] at h ⊢
   right
   refine⟨h,?_⟩
   by_cases c:500<num t
   ·rw[bT c] at h;simp only[st,true_and] at h;omega
   ·rw[bv c] at h
    by_cases b:100<deep t
    ·rw[bT b] at h;simp only[st,true_and] at h;omega
    ·rw[bv b] at h;simp at h
 |er x q=>
  rw[hx] at h
  have g:=((ylH D L _).1 _ _ _ _ _ hx).2
  simp only[st,true_and] at h ⊢
  left
  exact⟨h.1,by omega⟩
def Z:Bs:=[194,160,41,10]
def Tk.ext (t:Tk):Tk:=if t.kind=6 then {t with at':=t.at'++Z} else {t with at':=t.at'++Z,end':=t.end'++Z}
def yvl (l:Bs):(skip l=[]->skip (l++Z)=[41,10])/\(skip l≠[]->skip (l++Z)=skip l++Z):=by
 induction l using skip.induct with
 |case1 s g=>simp only[lB];rw[skip,skip];exact g
 |case2 c s f b g=>
  have i:skip (c::s)=skip s:=by rw[skip,bT b];exact f
  have a:skip (c::(s++Z))=skip (s++Z):=by
   rw[skip]
   ·rw[bT b]
   ·intro t e _;subst e;exact absurd b bL
  rw[lB,i,a];exact g
 |case3 c s f b=>
  have i:skip (c::s)=c::s:=by rw[skip,bv b];exact f
  have a:skip (c::(s++Z))=c::(s++Z):=by
   rw[skip]
   ·rw[bv b]
   ·intro t j a
    cases s with
    |nil=>simp[Z] at a
    |cons d s=>simp only[lB] at a;injection a with a k;exact f s j (by rw[a])
  rw[lB,i,a];exact⟨fun h=>by simp at h,fun _=>rfl⟩
 |case4=>exact⟨fun _=>by decide,fun h=>absurd rfl h⟩
def TC (q:UInt8->Bool) (hq:q 194=false) (s:Bs):(s++Z).takeWhile q=s.takeWhile q/\(s++Z).dropWhile q=s.dropWhile q++Z:=by
 induction s with
 |nil=>simp[Z,hq]
 |cons c s a=>
  by_cases h:q c=true
  ·simp only[lB];rw[Wt h,Wt h,RM h,RM h,a.1,a.2];exact⟨rfl,rfl⟩
  ·simp only[lB];rw[J6 h,J6 h,yV h,yV h];exact⟨rfl,rfl⟩
def ylY {D:UInt8} (a:D≠194) (s:Bs):cutD D (s++Z)=(cutD D s).map (· ++Z):=by
 cases s with
 |nil=>
  have: ¬ (194:UInt8)=D:=fun e=>a e.symm
  simp[cutD,Z,this]
 |cons c s=>simp only[lB,cutD];split<;>rfl
def ysa {D:UInt8} (a:D≠194) (s:Bs):mant D (s++Z)=((mant D s).1,(mant D s).2.1,(mant D s).2.2 ++Z):=by
 unfold mant;obtain⟨e,d⟩:=TC cu bL s;rw[e,d,ylY a]
 cases cutD D (s.dropWhile cu) with
 |none=>rfl
 |some r=>
  obtain⟨c,b⟩:=TC cu bL r
  simp only[yd,c,b]
def ym6 (s:Bs):expo (s++Z)=((expo s).1,(expo s).2 ++Z):=by
 cases s with
 |nil=>decide
 |cons c r=>
  simp only[lB]
  unfold expo
  simp only
  by_cases a:c=101∨c=69
  ·simp only[bT a]
   cases r with
   |nil=>
    have j: ¬ ((194:UInt8)=43∨(194:UInt8)=45):=bL
    have i:List.takeWhile cu [194,160,41,10]=[]:=bL
    simp only[xi,Z,bv j,i,lG]<;>rfl
   |cons d q=>
    simp only[lB]
    obtain⟨g,f⟩:=TC cu bL q
    obtain⟨e,b⟩:=TC cu bL (d::q)
    simp only[lB] at e b
    by_cases hd:d=43∨d=45
    ·simp only[bT hd,g,f]
     split<;>rfl
    ·simp only[bv hd,e,b]
     split<;>rfl
  ·simp only[bv a,lB]
def ysZ (r:Bs):quot (r++Z)=(quot r).map fun p=>(p.1,p.2++Z):=by
 induction r using quot.induct with
 |case1=>decide
 |case2 s f=>simp only[lB];rw[quot,quot,f,R9,R9];rfl
 |case3 s b=>
  have h:quot (34::s)=some ([],s):=by rw[quot,bT rfl];exact b
  have a:quot (34::(s++Z))=some ([],s++Z):=by
   rw[quot]
   ·rw[bT rfl]
   ·intro t _ e
    cases s with
    |nil=>simp[Z] at e
    |cons d s=>simp only[lB] at e;injection e with e a;exact b s rfl (by rw[e])
  rw[lB,h,a];rfl
 |case4 c s b g f=>
  have h:quot (c::s)=(quot s).map fun p=>(c::p.1,p.2):=by rw[quot,bv g];exact b
  have a:quot (c::(s++Z))=(quot (s++Z)).map fun p=>(c::p.1,p.2):=by
   rw[quot]
   ·rw[bv g]
   ·intro t e;exact absurd e g
  rw[lB,h,a,f,R9,R9];rfl
def yd6 (g:Bs) (hg: ∀ c ∈ g,c≠194) (s:Bs):Lib.hasPrefix (s++Z) g=Lib.hasPrefix s g:=by
 induction g generalizing s with
 |nil=>rw[yz,yz]
 |cons c g a=>
  cases s with
  |nil=>
   have:(c==194)=false:=by simpa using hg c cn
   rw[xi,Z,qY,this];rfl
  |cons d s=>rw[lB,qY,qY,a (fun x hx=>hg x (by simp[hx]))]
def ykI {b:Type} (p q:b->Bool) (l:List b) (h: ∀ x ∈ l,p x=q x):l.find? p=l.find? q:=by
 induction l with
 |nil=>rfl
 |cons a l c=>rw[zr,zr,h a cn,c (fun x hx=>h x (by simp[hx]))]
def yw7 (n:Nat): ∀ c ∈ jq (n:Int),c≠194:=by
 unfold jq;repeat' split
 all_goals decide
def ynt (s:Bs):pq (s++Z)=pq s:=ykI _ _ _ fun n _=>yd6 _ (yw7 n) s
def ytl {L:UInt8} (b:L≠194) (s:Bs):ss L (s++Z)=ss L s:=ykI _ _ _ fun g hg=>yd6 g (by
 unfold signs at hg
 simp only[sC,yF,yR] at hg
 rcases hg with rfl|rfl|rfl|rfl|rfl|rfl|rfl|rfl|rfl|rfl|rfl|rfl|rfl|rfl|rfl|rfl|rfl
 all_goals first|decide|(intro c a;simp only[sC,yF,yR] at a;rw[a];exact b)) s
def ym5 {D:UInt8} (a:D≠194) (s:Bs):oT D (s++Z)=oT D s:=by
 unfold oT;rw[ylY a]
 cases cutD D s with
 |none=>rfl
 |some r=>cases r with
  |nil=>decide
  |cons c r=>rfl
def ydU {s g:Bs} (h:Lib.hasPrefix s g=true):g.length<=s.length:=by
 induction g generalizing s with
 |nil=>exact iH _
 |cons c g a=>
  cases s with
  |nil=>cases h
  |cons d s=>rw[qY,fs] at h;have:=a h.2;simp only[gE];omega
def ynN {D L:UInt8} (a:D≠194) (j:L≠194) (c:UInt8) (r:Bs):tokS D L ((c::r)++Z)=(tokS D L (c::r)).ext :=by
 have f:(c::r)++Z=c::(r++Z):=rfl;rw[f];unfold tokS;simp only;rw[<-f,ym5 a,ynt,ytl j,ysZ];by_cases e:(cu c || oT D (c::r))=true
 ·simp only[bT e];unfold ou;rw[ysa a];simp only[ym6]<;>rfl
 ·simp only[bv e];by_cases d:c=34
  ·simp only[bT d]
   cases quot r with
   |none=>rfl
   |some p=>rfl
  ·simp only[bv d];by_cases b:(gI c || c==36)=true
   ·obtain⟨l,k⟩:=TC j1 bL (c::r);simp only[bT b,l,k]<;>rfl
   ·simp only[bv b]
    cases i:pq (c::r) with
    |some n=>
     have:=ydU (ydE i).2.2
     simp only[List.drop_append_of_le_length this]<;>rfl
    |none=>
     simp only
     cases hg:ss L (c::r) with
     |some g=>
      have:=ydU (Om hg).2.2
      simp only[List.drop_append_of_le_length this]<;>rfl
     |none=>rfl
def yvf {D L:UInt8} {l:Bs} (h:(tok D L l).kind =0):skip l=[]:=by
 unfold tok at h
 cases e:skip l with
 |nil=>rfl
 |cons c r=>
  rw[e] at h
  unfold tokS at h
  simp only at h
  split at h
  ·exact absurd h (by simp[ou])
  ·split at h
   ·split at h<;>simp at h
   ·split at h
    ·simp at h
    ·split at h
     ·simp at h
     ·split at h<;>simp at h
def Wo {D L:UInt8} (hl:Lc D L) (l:Bs):((tok D L l).kind =0/\(tok D L l).end' =[]/\tok D L (l++Z)=⟨5,[41,10],[10],[41],0⟩)∨((tok D L l).kind ≠0/\tok D L (l++Z)=(tok D L l).ext):=by
 have f:D≠194:=yay;have d:L≠194:=by rcases hl.l with h|h<;>rw[h]<;>decide
 obtain⟨i,g⟩:=yvl l;by_cases a:(tok D L l).kind =0
 ·left;have b:=yvf a;refine⟨a,by unfold tok;rw[b];rfl,?_⟩;have:=qz hl (c:=41) (by unfold one;rfl) [10];unfold tok at this ⊢;rw[i b];have e:skip [41,10]=[41,10]:=bL;rw[e] at this;exact this
 ·right;refine⟨a,?_⟩;unfold tok at a ⊢
  cases e:skip l with
  |nil=>rw[e] at a;exact absurd rfl a
  |cons c r=>rw[g (by rw[e];simp),e];exact ynN f d c r
def ydC (D L:UInt8) (f:Nat):(∀ op l e b,(tok D L l).kind =0->nl D L f op l≠ .ok e b)/\(∀ op l e b,(tok D L l).kind =0->nE D L f op l≠ .ok e b)/\(∀ n op l e b,(tok D L l).kind =0->expr D L f n op l≠ .ok e b):=by
 induction f with
 |zero=>refine⟨?_,?_,?_⟩<;>intros<;>simp[expr,nE,nl]
 |succ f g=>
  obtain⟨k,j,i⟩:=g
  refine⟨?_,?_,?_⟩
  ·intro op l e b c h
   rw[nl] at h
   (try simp only at h)
   rw[c] at h
   exact ygH
  ·intro op l e b c h
   rw[nE,bv (fun a=>by rw[c] at a;cases a.1)] at h
   split at h
   ·rename_i d;exact k _ _ _ _ c d
   ·simp at h
  ·intro n op l e b c h
   rw[expr] at h
   split at h
   ·exact j _ _ _ _ c h
   ·split at h
    ·rename_i d;exact i _ _ _ _ _ c d
    ·simp at h
def ext5 {D L:UInt8} (hl:Lc D L) {l:Bs} (h:(tok D L l).kind ≠0) (b:(tok D L l).kind ≠6):(tok D L (l++Z)).kind =(tok D L l).kind /\(tok D L (l++Z)).text =(tok D L l).text /\(tok D L (l++Z)).exp =(tok D L l).exp /\(tok D L (l++Z)).end' =(tok D L l).end' ++Z:=by
 rcases Wo hl l with ⟨a,_⟩|⟨_,a⟩
 ·exact absurd a h
 ·rw[a];unfold Tk.ext;rw[bv b];exact⟨rfl,rfl,rfl,rfl⟩
def ybK {D L:UInt8} (hl:Lc D L) {l:Bs} (q:Bs->Prop) (c: ¬ q [41]):((tok D L (l++Z)).kind =5/\q (tok D L (l++Z)).text)↔((tok D L l).kind =5/\q (tok D L l).text):=by
 rcases Wo hl l with ⟨a,_,b⟩|⟨_,a⟩
 ·rw[b,a];simp[c]
 ·rw[a];unfold Tk.ext;split<;>exact Iff.rfl
def Ih {D L:UInt8} (hl:Lc D L) {l:Bs} (h:(tok D L l).kind =5):(tok D L (l++Z)).end' =(tok D L l).end' ++Z/\(tok D L (l++Z)).text =(tok D L l).text /\(tok D L (l++Z)).kind =5:=by obtain⟨a,b,c,d⟩:=ext5 hl (l:=l) aG aG;exact⟨d,b,by omega⟩
def ylz:eT [41]=0:=bL
def yh0 (s:Bs):Lib.hasPrefix (s++Z) [40]=Lib.hasPrefix s [40]:=yd6 [40] bL s
def yud {D L:UInt8} (hl:Lc D L) {t t':Tk} {e:Tr} {l:Bs} (f:t'.text=t.text) (j:t'.end'=t.end'++Z) (h:word D L t= .ok e l):word D L t'= .ok e (l++Z):=by
 have i:mf t'=mf t:=by unfold mf;rw[f]
 unfold word at h ⊢;rw[i,f,j];by_cases c1:Ce.eY t.text=qZ∨Ce.eY t.text=so
 ·rw[bT c1] at h ⊢;injection h with c b;rw[<-c,<-b]
 ·rw[bv c1] at h ⊢;by_cases c2:(mf t).2 ≠0
  ·rw[bT c2] at h;cases h
  ·rw[bv c2] at h ⊢;have d:=ybK hl (l:=t.end') (· =[58]) bL;by_cases c3:(tok D L t.end').kind =5/\(tok D L t.end').text =[58]
   ·rw[bT c3] at h;rw[bT (d.2 c3)];obtain⟨g,_,_⟩:=Ih hl c3.1;rw[g];simp only at h ⊢;by_cases c4:(tok D L (tok D L t.end').end').kind ≠3∨Ce.eY (tok D L (tok D L t.end').end').text =qZ∨Ce.eY (tok D L (tok D L t.end').end').text =so∨Lib.hasPrefix (tok D L (tok D L t.end').end').end' [40]=true
    ·rw[bT c4] at h;simp[no] at h
    ·have m:(tok D L (tok D L t.end').end').kind =3:=Decidable.byContradiction fun a=>c4 (.inl a);obtain⟨y1,y2,y3,y4⟩:=ext5 hl (l:=(tok D L t.end').end') aG aG;rw[bv c4] at h;have k:mf (tok D L ((tok D L t.end').end' ++Z))=mf (tok D L (tok D L t.end').end'):=by unfold mf;rw[y2]
     rw[y1,y2,y4,yh0,bv c4,k];split at h
     ·cases h
     ·rename_i c5
      rw[bv c5];injection h with c b;rw[<-c,<-b]
   ·rw[bv c3] at h;rw[bv (fun a=>c3 (d.1 a))];injection h with c b;rw[<-c,<-b]
def yjs {D L:UInt8} (hl:Lc D L) (f:Nat):(∀ n op l e i,1<=n->expr D L f n op l= .ok e i->expr D L f n op (l++Z)= .ok e (i++Z))/\(∀ n op g l e i,1<=n->loop D L f n op g l= .ok e i->loop D L f n op g (l++Z)= .ok e (i++Z))/\
 (∀ op l e i,nE D L f op l= .ok e i->nE D L f op (l++Z)= .ok e (i++Z))/\(∀ g l e i,post D L f g l= .ok e i->post D L f g (l++Z)= .ok e (i++Z))/\(∀ op l e i,nl D L f op l= .ok e i->nl D L f op (l++Z)= .ok e (i++Z))/\
 (∀ op w l e i,(tok D L l).kind ≠6->call D L f op w l= .ok e i->call D L f op w (l++Z)= .ok e (i++Z))/\(∀ op w ks l e i,args D L f op w ks l= .ok e i->args D L f op w ks (l++Z)= .ok e (i++Z)):=by
 induction f with
 |zero=>refine⟨?_,?_,?_,?_,?_,?_,?_⟩<;>intros<;>rename_i h<;>simp[expr,loop,nE,post,nl,call,args] at h
 |succ f T=>
  obtain⟨C,Q,P,O,V,U,N⟩:=T
  refine⟨?_,?_,?_,?_,?_,?_,?_⟩
  ·intro n op l e i hn h
   rw[expr] at h ⊢
   by_cases z:n=6
   ·rw[bT z] at h ⊢;exact P _ _ _ _ h
   ·rw[bv z] at h ⊢
    split at h
    ·rename_i k o m
     rw[C _ _ _ _ _ aG m]
     exact Q _ _ _ _ _ _ hn h
    ·cases h
  ·intro n op g l e i hn h
   have s:=ybK hl (l:=l) (fun t=>eT t=n) (by rw[ylz];omega)
   rw[loop] at h ⊢
   by_cases d:(tok D L l).kind =5/\eT (tok D L l).text =n
   ·rw[bT d] at h;rw[bT (s.2 d)]
    obtain⟨q,v,_⟩:=Ih hl d.1
    rw[q,v]
    split at h
    ·rename_i k o m
     rw[C _ _ _ _ _ aG m]
     exact Q _ _ _ _ _ _ hn h
    ·cases h
   ·rw[bv d] at h;rw[bv (fun a=>d (s.1 a))]
    injection h with k j;rw[k,j]
  ·intro op l e i h
   have s:=ybK hl (l:=l) (fun t=>eT t=3) (by rw[ylz];decide)
   rw[nE] at h ⊢
   by_cases d:(tok D L l).kind =5/\eT (tok D L l).text =3
   ·rw[bT d] at h;rw[bT (s.2 d)]
    obtain⟨q,v,_⟩:=Ih hl d.1
    by_cases u:op=100
    ·rw[bT u] at h;cases h
    ·rw[bv u] at h ⊢
     rw[q,v]
     split at h
     ·rename_i k o m
      rw[P _ _ _ _ m]
      injection h with j A;rw[<-j,<-A]
     ·cases h
   ·rw[bv d] at h;rw[bv (fun a=>d (s.1 a))]
    split at h
    ·rename_i k o m
     rw[V _ _ _ _ m]
     exact O _ _ _ _ h
    ·cases h
  ·intro g l e i h
   have s:=ybK hl (l:=l) (· =[37]) bL
   rw[post] at h ⊢
   by_cases d:(tok D L l).kind =5/\(tok D L l).text =[37]
   ·rw[bT d] at h;rw[bT (s.2 d)]
    obtain⟨q,_,_⟩:=Ih hl d.1
    rw[q];exact O _ _ _ _ h
   ·rw[bv d] at h;rw[bv (fun a=>d (s.1 a))]
    injection h with k j;rw[k,j]
  ·intro op l e i h
   have hz:(tok D L l).kind ≠0:=fun a=>(ydC D L (f+1)).1 _ _ _ _ a h
   have z:(tok D L l).kind ≠6:=fun a=>by rw[nl] at h;(try simp only at h);rw[a] at h;exact ygH
   obtain⟨q,v,G,B⟩:=ext5 hl hz z
   rw[nl] at h ⊢
   (try simp only at h)
   (try simp only)
   rw[q,v,G,B]
   by_cases M:(tok D L l).kind =1
   ·rw[bT M] at h ⊢
    split at h
    ·rename_i x hx;injection h with k j;rw[<-k,<-j]
    ·cases h
   rw[bv M] at h ⊢
   by_cases K:(tok D L l).kind =2
   ·rw[bT K] at h ⊢
    split at h
    ·cases h
    ·rename_i hx;rw[bv hx];injection h with k j;rw[<-k,<-j]
   rw[bv K] at h ⊢
   by_cases I:(tok D L l).kind =4
   ·rw[bT I] at h ⊢;injection h with k j;rw[<-k,<-j]
   rw[bv I] at h ⊢
   by_cases J:(tok D L l).kind =3
   ·rw[bT J] at h ⊢
    rw[yh0]
    by_cases y:Lib.hasPrefix (tok D L l).end' [40]=true
    ·rw[bT y] at h ⊢
     split at h
     ·rename_i W
      rw[bT W]
      refine U _ _ _ _ _ (fun a=>?_) h
      cases F:(tok D L l).end' with
      |nil=>rw[F] at y;cases y
      |cons c r=>
       rw[F,qY,yz,jW] at y
       have:c=40:=by simpa using(sb.1 y).symm
       rw[F,this,qz hl (by unfold one;rfl)] at a
       cases a
     ·cases h
    ·rw[bv y] at h ⊢
     exact yud hl v B h
   rw[bv J] at h ⊢
   by_cases H:(tok D L l).kind =5/\(tok D L l).text =[40]
   ·rw[bT H] at h ⊢
    by_cases u:op=100
    ·rw[bT u] at h;cases h
    ·rw[bv u] at h ⊢
     split at h
     ·rename_i k o m
      rw[C _ _ _ _ _ aG m]
      by_cases d:(tok D L o).kind =5/\(tok D L o).text =[41]
      ·obtain⟨y1,y2,y3⟩:=Ih hl d.1
       rw[bT d] at h
       simp only[]
       rw[bT ⟨y3,by rw[y2];exact d.2⟩,y1]
       injection h with j A;rw[<-j,<-A]
      ·rw[bv d] at h;simp[no] at h
     ·cases h
   ·rw[bv H] at h;simp[no] at h
  ·intro op w l e i z h
   rw[call] at h ⊢
   by_cases u:op=100
   ·rw[bT u] at h;cases h
   rw[bv u] at h ⊢
   have hz:(tok D L l).kind ≠0:=fun a=>by
    have Y:(tok D L l).end' =[]:=by
     rcases Wo hl l with ⟨_,b,_⟩|⟨b,_⟩
     ·exact b
     ·exact absurd a b
    rw[Y] at h;have R:(tok D L []).kind =0:=rfl;rw[bv (fun a=>by rw[R] at a;cases a.1)] at h
    cases f with
    |zero=>rw[args] at h;cases h
    |succ f=>
     rw[args] at h
     split at h
     ·rename_i m;exact(ydC D L f).2.2 _ _ _ _ _ R m
     ·cases h
   obtain⟨q,v,G,B⟩:=ext5 hl hz z
   rw[B]
   by_cases d:(tok D L (tok D L l).end').kind =5/\(tok D L (tok D L l).end').text =[41]
   ·obtain⟨y1,y2,y3⟩:=Ih hl d.1
    rw[bT d] at h
    rw[y1,y2,y3]
    simp only[d.2,xM,lG]
    injection h with k j;rw[<-k,<-j]
   ·rw[bv d] at h
    have X:(tok D L (tok D L l).end').kind ≠0:=fun a=>by
     cases f with
     |zero=>rw[args] at h;cases h
     |succ f=>
      rw[args] at h
      split at h
      ·rename_i m;exact(ydC D L f).2.2 _ _ _ _ _ a m
      ·cases h
    have hx: ¬ ((tok D L ((tok D L l).end' ++Z)).kind =5/\(tok D L ((tok D L l).end' ++Z)).text =[41]):=by
     rcases Wo hl (tok D L l).end' with ⟨b,_⟩|⟨_,b⟩
     ·exact absurd b X
     ·rw[b];unfold Tk.ext;split<;>exact d
    rw[bv hx]
    exact N _ _ _ _ _ _ h
  ·intro op w ks l e i h
   rw[args] at h ⊢
   split at h
   ·rename_i k o m
    rw[C _ _ _ _ _ aG m]
    (try simp only at h)
    (try simp only)
    by_cases d:(tok D L o).kind =5/\((tok D L o).text =[41]∨(tok D L o).text =[L])
    ·obtain⟨y1,y2,y3⟩:=Ih hl d.1
     rw[bT d] at h
     rw[y1,y2,y3,bT ⟨rfl,d.2⟩]
     split at h
     ·rename_i E
      rw[bT E];injection h with j A;rw[<-j,<-A]
     ·rename_i E
      rw[bv E]
      split at h
      ·cases h
      ·rename_i S
       rw[bv S];exact N _ _ _ _ _ _ h
    ·rw[bv d] at h;simp[no] at h
   ·cases h
def ynf (D L:UInt8) (f:Nat):(∀ n op l e b,expr D L f n op l= .ok e b->expr D L f n (op+1) l= .ok e b∨ ∃ p,expr D L f n (op+1) l= .er 7 p)/\(∀ n op g l e b,loop D L f n op g l= .ok e b->loop D L f n (op+1) g l= .ok e b∨ ∃ p,loop D L f n (op+1) g l= .er 7 p)/\
 (∀ op l e b,nE D L f op l= .ok e b->nE D L f (op+1) l= .ok e b∨ ∃ p,nE D L f (op+1) l= .er 7 p)/\(∀ op l e b,nl D L f op l= .ok e b->nl D L f (op+1) l= .ok e b∨ ∃ p,nl D L f (op+1) l= .er 7 p)/\
 (∀ op i l e b,call D L f op i l= .ok e b->call D L f (op+1) i l= .ok e b∨ ∃ p,call D L f (op+1) i l= .er 7 p)/\(∀ op i ks l e b,args D L f op i ks l= .ok e b->args D L f (op+1) i ks l= .ok e b∨ ∃ p,args D L f (op+1) i ks l= .er 7 p):=by
 induction f with
 |zero=>refine⟨?_,?_,?_,?_,?_,?_⟩<;>intros<;>rename_i h<;>simp[expr,loop,nE,nl,call,args] at h
 |succ f F=>
  obtain⟨q,A,z,H,G,y⟩:=F
  refine⟨?_,?_,?_,?_,?_,?_⟩
  ·intro n op l e b h
   rw[expr] at h ⊢
   by_cases E:n=6
   ·rw[bT E] at h ⊢;exact z _ _ _ _ h
   ·rw[bv E] at h ⊢
    split at h
    ·rename_i o j d
     rcases q _ _ _ _ _ d with a|⟨p,a⟩
     ·rw[a];exact A _ _ _ _ _ _ h
     ·rw[a];exact .inr ⟨p,rfl⟩
    ·cases h
  ·intro n op g l e b h
   rw[loop] at h ⊢
   by_cases c:(tok D L l).kind =5/\eT (tok D L l).text =n
   ·rw[bT c] at h ⊢
    split at h
    ·rename_i o j d
     rcases q _ _ _ _ _ d with a|⟨p,a⟩
     ·rw[a];exact A _ _ _ _ _ _ h
     ·rw[a];exact .inr ⟨p,rfl⟩
    ·cases h
   ·rw[bv c] at h ⊢;exact .inl h
  ·intro op l e b h
   rw[nE] at h ⊢
   by_cases c:(tok D L l).kind =5/\eT (tok D L l).text =3
   ·rw[bT c] at h ⊢
    by_cases k:op=100
    ·rw[bT k] at h;cases h
    ·rw[bv k] at h
     by_cases m:op+1=100
     ·rw[bT m];exact .inr ⟨_,rfl⟩
     ·rw[bv m]
      split at h
      ·rename_i o j d
       rcases z _ _ _ _ d with a|⟨p,a⟩
       ·rw[a];exact .inl h
       ·rw[a];exact .inr ⟨p,rfl⟩
      ·cases h
   ·rw[bv c] at h ⊢
    split at h
    ·rename_i o j d
     rcases H _ _ _ _ d with a|⟨p,a⟩
     ·rw[a];exact .inl h
     ·rw[a];exact .inr ⟨p,rfl⟩
    ·cases h
  ·intro op l e b h
   rw[nl] at h ⊢
   (try simp only at h)
   (try simp only)
   by_cases x:(tok D L l).kind =1
   ·rw[bT x] at h ⊢;exact .inl h
   rw[bv x] at h ⊢
   by_cases w:(tok D L l).kind =2
   ·rw[bT w] at h ⊢;exact .inl h
   rw[bv w] at h ⊢
   by_cases u:(tok D L l).kind =4
   ·rw[bT u] at h ⊢;exact .inl h
   rw[bv u] at h ⊢
   by_cases v:(tok D L l).kind =3
   ·rw[bT v] at h ⊢
    by_cases B:Lib.hasPrefix (tok D L l).end' [40]=true
    ·rw[bT B] at h ⊢
     by_cases C:oF (Ce.eY (tok D L l).text)=true
     ·rw[bT C] at h ⊢;exact G _ _ _ _ _ h
     ·rw[bv C] at h;cases h
    ·rw[bv B] at h ⊢;exact .inl h
   rw[bv v] at h ⊢
   by_cases t:(tok D L l).kind =5/\(tok D L l).text =[40]
   ·rw[bT t] at h ⊢
    by_cases k:op=100
    ·rw[bT k] at h;cases h
    ·rw[bv k] at h
     by_cases m:op+1=100
     ·rw[bT m];exact .inr ⟨_,rfl⟩
     ·rw[bv m]
      split at h
      ·rename_i o j d
       rcases q _ _ _ _ _ d with a|⟨p,a⟩
       ·rw[a];exact .inl h
       ·rw[a];exact .inr ⟨p,rfl⟩
      ·cases h
   ·rw[bv t] at h;simp[no] at h
  ·intro op i l e b h
   rw[call] at h ⊢
   by_cases k:op=100
   ·rw[bT k] at h;cases h
   rw[bv k] at h
   by_cases m:op+1=100
   ·rw[bT m];exact .inr ⟨_,rfl⟩
   rw[bv m]
   by_cases c:(tok D L (tok D L l).end').kind =5/\(tok D L (tok D L l).end').text =[41]
   ·rw[bT c] at h ⊢;exact .inl h
   ·rw[bv c] at h ⊢;exact y _ _ _ _ _ _ h
  ·intro op i ks l e b h
   rw[args] at h ⊢
   split at h
   ·rename_i o j d
    rcases q _ _ _ _ _ d with a|⟨p,a⟩
    ·rw[a]
     simp only at h ⊢
     by_cases c:(tok D L j).kind =5/\((tok D L j).text =[41]∨(tok D L j).text =[L])
     ·rw[bT c] at h ⊢
      by_cases s:(tok D L j).text =[41]
      ·rw[bT s] at h ⊢;exact .inl h
      ·rw[bv s] at h ⊢
       by_cases r:ks.length+1=30
       ·rw[bT r] at h;cases h
       ·rw[bv r] at h ⊢;exact y _ _ _ _ _ _ h
     ·rw[bv c] at h;simp[no] at h
    ·rw[a];exact .inr ⟨p,rfl⟩
   ·cases h
def ymZ {D L:UInt8} {l m:Bs} {op:Nat} {t:Tr} (h:jr D L 6 op l= .ok t m) (hm:(tok D L m).kind =0): ∀ k n:Nat,n+k=6->1<=n->jr D L n op l= .ok t m:=by
 intro k
 induction k with
 |zero=>
  intro n hn _;have:n=6:=aG
  subst this;exact h
 |succ k c=>
  intro n hn b
  rw[LD op l b aG,c (n+1) aG aG]
  show vF D L n op t m=_
  rw[XV op t m b aG,bv (fun a=>by rw[hm] at a;cases a.1)]
def yoB {D L:UInt8} {l p:Bs} {op:Nat} {x:Int} (h:jr D L 6 op l= .er x p): ∀ k n:Nat,n+k=6->1<=n->jr D L n op l= .er x p:=by
 intro k
 induction k with
 |zero=>
  intro n hn _;have:n=6:=aG
  subst this;exact h
 |succ k a=>
  intro n hn b
  rw[LD op l b aG,a (n+1) aG aG];rfl
def yw1 {D L:UInt8} (hl:Lc D L) (s:Bs) (H:s.length<=990) (t:Tr) (h:parse D L s=(some t,0,0)):
 parse D L ([32,40,32]++(s++Z))=(some t,0,0)∨ ∃ p,parse D L ([32,40,32]++(s++Z))=(none,7,p):=by
 have q:tok D L ([32,40,32]++(s++Z))=⟨5,40::32::(s++Z),32::(s++Z),[40],0⟩:=by have:=qz hl (c:=40) (by unfold one;rfl) (32::(s++Z));unfold tok at this ⊢;show tokS D L (skip (32::40::32::(s++Z)))=_;rw[ybf];exact this
 rw[V0] at h ⊢;have E:([32,40,32]++(s++Z)).length =s.length+7:=by simp[Z]
 rw[bv aG] at h;rw[E,bv aG]
 cases hx:jr D L 1 0 s with
 |er x p=>rw[hx] at h;simp at h
 |ok d l=>
  rw[hx] at h
  simp only at h
  by_cases i:(tok D L l).kind ≠0
  ·rw[bT i] at h;simp at h
  rw[bv i] at h
  have u:(tok D L l).kind =0:=Decidable.byContradiction i
  by_cases k:500<num d
  ·rw[bT k] at h;simp at h
  rw[bv k] at h
  by_cases j:100<deep d
  ·rw[bT j] at h;simp at h
  rw[bv j] at h
  simp only[st,vO,Xy] at h
  subst h
  have F:jr D L 1 0 (s++Z)= .ok d (l++Z):=by
   have a:=(yjs hl (fuel s)).1 1 0 s d l cm hx;have G:(s++Z).length =s.length+4:=by simp[Z]
   -- the fuel of the longer text:the same answer
   have b:=(yjs hl (fuel (s++Z))).1 1 0 s d l cm (by
    rw[<-hx];unfold jr
    exact(uT D L _ _).1 _ _ _ cm aG vi vi)
   exact b
  have C:=yik (op:=1) (show tok D L (32::(s++Z))=tok D L (s++Z) by unfold tok;rw[ybf]) 5 1 rfl cm
  have hz:tok D L (l++Z)=⟨5,[41,10],[10],[41],0⟩:=by
   rcases Wo hl l with ⟨_,_,hz⟩|⟨hz,_⟩
   ·exact hz
   ·exact absurd u hz
  have f:jr D L 6 0 ([32,40,32]++(s++Z))=((jr D L 1 1 (s++Z)).bind fun e g=>if(tok D L g).kind =5/\(tok D L g).text =[41] then .ok e (tok D L g).end' else no D L g).bind (vj D L):=by rw[OJ,J5,q];have B: ¬ (True/\eT [40]=3):=bL;have A: ¬ ((5:Nat)=1):=bL;have z: ¬ ((5:Nat)=2):=bL;have y: ¬ ((5:Nat)=3):=bL;have w: ¬ ((5:Nat)=4):=bL;have v: ¬ ((0:Nat)=100):=bL;simp only[];rw[bv B,sS,q];simp only[];rw[bv A,bv z,bv y,bv w,bv v];simp only[xM,lG];rw[C]
  have r:=(ynf D L (fuel (s++Z))).1 1 0 (s++Z) d (l++Z) F
  rcases r with o|⟨p,o⟩
  ·left
   have n:jr D L 1 1 (s++Z)= .ok d (l++Z):=o
   rw[n] at f
   have m:(tok D L [10]).kind =0:=rfl
   have a4:jr D L 6 0 ([32,40,32]++(s++Z))= .ok d [10]:=by rw[f];simp only[Rs.bind,hz,xM,lG];rw[XF,bv (fun a=>by rw[m] at a;cases a.1)]
   rw[ymZ a4 m 5 1 rfl cm]
   simp only[m]
   rw[bv bL,bv k,bv j]
  ·right
   have n:jr D L 1 1 (s++Z)= .er 7 p:=o
   rw[n] at f
   rw[yoB f 5 1 rfl cm]
   exact⟨_,rfl⟩
end Fx

namespace Fx
open Dc (Bs cu)
def ypY (l:Bs):skip l <:+l:=by
 induction l using skip.induct with
 |case1 s a=>rw[skip];exact a.trans ⟨[194,160],rfl⟩
 |case2 c s b h a=>rw[skip,bT h];exact a.trans ⟨[c],rfl⟩;exact b
 |case3 c s b h=>rw[skip,bv h];exact zT _;exact b
 |case4=>exact zT _
def yot (D:UInt8) (s:Bs):(mant D s).2.2 <:+s:=by
 unfold mant;split
 ·rename_i r h
  have:=N1 h;have a:=Kp cu (l:=s);rw[this] at a;exact(Kp cu).trans ((CV _ _).trans a)
 ·exact Kp cu
def yqz (s:Bs):(expo s).2 <:+s:=by
 unfold expo;split
 ·exact zT _
 ·rename_i c r
  split
  ·split
   ·exact zT _
   ·rename_i d q
    split
    ·split
     ·exact zT _
     ·exact(Kp cu).trans ((CV _ _).trans (CV _ _))
    ·split
     ·exact zT _
     ·exact(Kp cu).trans (CV _ _)
  ·exact zT _
def yqI {s t l:Bs} (h:quot s=some (t,l)):l <:+s:=by
 induction s using quot.induct generalizing t l with
 |case1=>simp[quot] at h
 |case2 s a=>
  rw[quot] at h
  cases e:quot s with
  |none=>rw[e] at h;simp at h
  |some p=>rw[e] at h;simp only[yd,vO,st] at h;rw[<-h.2];exact(a (t:=p.1) (l:=p.2) e).trans ⟨[34,34],rfl⟩
 |case3 s b=>
  rw[quot] at h
  ·simp only[lG,vO,st] at h;rw[<-h.2];exact CV _ _
  ·exact b
 |case4 c s b d a=>
  rw[quot] at h
  ·rw[bv d] at h
   cases e:quot s with
   |none=>rw[e] at h;simp at h
   |some p=>rw[e] at h;simp only[yd,vO,st] at h;rw[<-h.2];exact(a (t:=p.1) (l:=p.2) e).trans (CV _ _)
  ·exact b
def yr0 (D L:UInt8) (s:Bs):(tokS D L s).end' <:+s:=by
 cases s with
 |nil=>exact zT _
 |cons c r=>
  unfold tokS
  simp only
  split
  ·exact(yqz _).trans (yot D _)
  ·split
   ·split
    ·rename_i t l e
     exact(yqI e).trans (CV _ _)
    ·exact List.nil_suffix
   ·split
    ·exact Kp _
    ·split
     ·exact List.drop_suffix _ _
     ·split
      ·exact List.drop_suffix _ _
      ·exact List.nil_suffix
def SH (D L:UInt8) (l:Bs):(tok D L l).end' <:+l:=(yr0 D L (skip l)).trans (ypY l)
def yhM {l s:Bs} (h:l <:+s):s.drop (s.length-l.length)=l:=by obtain⟨t,rfl⟩:=h;rw[j2,va,List.drop_left]
end Fx

def w3Eq (f e d c b a:Int):Bool:=f==c&&(e==b&&d==a)
def ysP:prog.underlying 284=some (.struct (prog.fieldsOf 284)):=cI
def yuT:prog.stoodInHeld 284=false:=cI
def yno:prog.eqGuardType prog.depth 284=false:=cI
def yoY:(prog.fieldsOf 284).toList.map (fun f=>(f.type,f.offset,f.name== "_"))=[(22,0,false),(22,1,false),(22,2,false)]:=cI
def ywz (op:BinOp) (x y:Operand) (xs ys:Array Value) (w:World):(eqGuard op 284 x y (.agg xs) (.agg ys)).run prog w= .ok () w:=yeh _ _ _ _ _ _ _ yno
def ykm (j i h g f e:Int) (w:World):
 (Op.equalIn 10000 284 (.agg #[.int .u64 j,.int .u64 i,.int .u64 h]) (.agg #[.int .u64 g,.int .u64 f,.int .u64 e])).run prog w= .ok (w3Eq j i h g f e) w:=by
 rw[ye2 _ 9999 _ _ _ ysP yuT];have d:=yoY;generalize (prog.fieldsOf 284).toList =k at d;have hl:=dZ List.length d;rw[G0] at hl
 obtain⟨n,m,l,rfl⟩: ∃ n m l,k=[n,m,l]:=by
  match k,hl with
  | [a,b,c],_=>exact⟨a,b,c,rfl⟩
 simp only[ya,M8,yaw,st,Xy] at d;obtain⟨⟨t0,s,v⟩,⟨p,r,u⟩,⟨o,q,t⟩⟩:=d;have z:=gN.1 v;have y:=gN.1 u;have x:=gN.1 t;simp[Op.eqFields,w3Eq,go_sem,t0,p,o,s,r,q,z,y,x,underlying22];by_cases C:j=g<;>by_cases B:i=f<;>by_cases A:h=e<;>simp[C,B,A]
def yp3 (f e d c b a:Int) (w:World):
 (binOp .neq 284 (.agg #[.int .u64 f,.int .u64 e,.int .u64 d]) (.agg #[.int .u64 c,.int .u64 b,.int .u64 a])).run prog w= .ok (.bool (!(w3Eq f e d c b a))) w:=by
 rw[ydW,ykm];rfl
def ypA (f e d c b a:Int) (w:World):
 (binOp .eql 284 (.agg #[.int .u64 f,.int .u64 e,.int .u64 d]) (.agg #[.int .u64 c,.int .u64 b,.int .u64 a])).run prog w= .ok (.bool (w3Eq f e d c b a)) w:=by
 rw[run_eql_struct,ykm];rfl

def yiU (s:ByteArray) (w:World) (a:s.size<=1000000000):Calls prog 99 #[.string s,.string ⟨#[48,49,50,51,52,53,54,55,56,57]⟩] w (RetB (.string ⟨(Lib.trimS s.data.toList Na.dset).toArray⟩) w):=
 (yio lays160 cI s ⟨#[48,49,50,51,52,53,54,55,56,57]⟩ w aG bL (Go.Proofs.ascii_of_all bL)).mono fun _ _ h=>⟨h.1,h.2⟩
def ylw (s:ByteArray) (w:World):Calls prog 208 #[.string s,.string ⟨#[48]⟩] w (Ret0 (.string ⟨(s.data.toList.dropWhile (· ==48)).toArray⟩) w):=
 (strings_TrimLeft_one s 48 bL w).mono fun _ _ h=>⟨h.1,h.2.symm⟩
def yog (s:ByteArray) (w:World) (hd:s.data.toList.all Na.isD=true) (h:0<s.size/\s.size<=9):Calls prog 96 #[.string s] w (RetB (.tuple #[.int .i64 (Na.num s.data.toList:Nat),.nilIface]) w):=
 (strconv_Atoi_ok s aG _ (Na.yqW s.data.toList hd (fun e=>by have:=dZ List.length e;rw[dN,rp] at this;omega) (by rw[dN];exact h.2)) w).mono fun e w' a=>⟨a.1,by
  rcases a.2 with e|⟨t,e⟩
  ·rw[e];exact eN
  ·rw[e];exact Td _ _ _⟩
def ywj (s:ByteArray) (w:World) (h:s.size=0):Calls prog 264 #[.string s] w (ln (Na.parse s.data.toList) w):=by
 have a:s.data.toList=[]:=yM (by rw[dN];exact h);have e:=aL (K7 3 (show Na.parse s.data.toList=([],3) from bT (Or.inl a)) (oA w.heap.size w));have b:s.toList.isEmpty=true:=pB h;have c:s.toList=[]:=List.isEmpty_iff.1 b;clear a h;go_enter func264,ntmps264
 go_wp2
 refine eB (v:= .tuple #[.slice none 0 0,.int .i64 3]) L3 rfl e.out
def ysM (s:ByteArray) (w:World) (h:0<s.size) (d:s.size<=1000000000) (hd:s.data.toList.all Na.isD=false):Calls prog 264 #[.string s] w (ln (Na.parse s.data.toList) w):=by
 have e:=aL (fun w' (hb:Below w.heap.size w w')=>K7 3 (show Na.parse s.data.toList=([],3) from bT (Or.inr hd)) hb);have j:s.toList.isEmpty=false:=oj h;have a:=yiU s w d;obtain⟨T,b⟩:=bx (⟨(Lib.trimS s.data.toList Na.dset).toArray⟩:ByteArray);have c: ¬ Lib.trimS s.data.toList Na.dset=[]:=fun e=>by rw[Na.yl1,hd] at e;cases e
 have g:0<T.size:=by rw[b,nm];exact ti.2 c
 rw[<-b] at a;have f:=aL a;have i:T.toList.isEmpty=false:=oj g;clear a b c hd;go_enter func264,ntmps264
 go_wp2_with (go_at_call 99;refine cp f.out ?_;refine wv ?_;intro w1 ab ao ay az af)
 refine eB (v:= .tuple #[.slice none 0 0,.int .i64 3]) L3 rfl (e.out _ ao)
def yuL (s:ByteArray) (w:World) (h:0<s.size) (hs:s.size<=1000000000) (hd:s.data.toList.all Na.isD=true) (hl:3000<(s.data.toList.dropWhile (· ==48)).length):Calls prog 264 #[.string s] w (ln (Na.parse s.data.toList) w):=by
 have b: ¬ (s.data.toList=[]∨s.data.toList.all Na.isD=false):=by
  rw[hd];rintro (e|e)
  ·have:=dZ List.length e;rw[dN,rp] at this;omega
  ·cases e
 have e:=aL (fun w' (hb:Below w.heap.size w w')=>K7 2 (show Na.parse s.data.toList=([],2) from(bv b).trans (Na.ypE _ hd hl)) hb);refine ylD ?_;intro h1 hc HC;obtain⟨T,a⟩:=bx (⟨(s.data.toList.dropWhile (· ==48)).toArray⟩:ByteArray);have d:3000<T.size:=by rw[a,nm];exact hl
 have c:=aL (fun w=>ylw s w);rw[<-a] at c;clear hc a hd hl b;go_enter func264,ntmps264
 go_wp2_with (first|(go_at_call 99;refine cp HC.out ?_;refine wv ?_;intro w1 ab ao ay az af)|(go_at_call 208;refine cY (c.out _) ?_))
 refine eB (v:= .tuple #[.slice none 0 0,.int .i64 2]) L3 rfl (e.out _ ao)

def yvr (T:List UInt8) (w:World) (sv b ev:Value) (wr:World):Prop:= ∃ (t:ByteArray) (k x:Nat) (a:Option Addr) (c:Nat),sv= .string t/\t.size+k=T.length/\Hid (t.data.toList=T.drop k)/\ev= .int .i64 0/\Hid (x=Na.num (T.take k))/\
 b= .slice a (Na.cl x).length c/\(Na.cl x).length <=256/\Hid (Sl wr a c (Na.cl x))/\Hid (Own wr w.heap.size a (Na.cl x).length)/\Hid (Below w.heap.size w wr)
def yua (s:ByteArray) (w:World) (h:0<s.size) (hs:s.size<=1000000000) (hd:s.data.toList.all Na.isD=true) (hl:(s.data.toList.dropWhile (· ==48)).length <=3000):Calls prog 264 #[.string s] w (ln (Na.parse s.data.toList) w):=by
 have aq: ¬ (s.data.toList=[]∨s.data.toList.all Na.isD=false):=by
  rw[hd];rintro (e|e)
  ·have:=dZ List.length e;rw[dN,rp] at this;omega
  ·cases e
 have e2:Na.parse s.data.toList=Na.fits (Na.num (s.data.toList.dropWhile (· ==48))):=(bv aq).trans (by rw[Na.yjg]);refine ylD ?_;intro h1 hc HC;obtain⟨L,N⟩:=bx (s.data.toList.dropWhile (· ==48));have XM:=aL (N▸Na.ylT _ hd:L.all Na.isD=true);obtain⟨T,J⟩:=bx (⟨L.toArray⟩:ByteArray);have gY:T.size=L.length:=by rw[J,nm]
 have bH:=aL (show T.data.toList=L by rw[J]);have HL:=aL (fun w=>ylw s w);rw[<-N,<-J] at HL;rw[<-N] at e2 hl;obtain⟨E2,tO⟩:=dY e2 gY;have XA:T.size<=3000:=aG;clear hc J hd N aq e2 gY;go_enter func264,ntmps264
 go_wp2_with (first|(go_at_call 99;refine cp HC.out ?_;refine wv ?_;intro w1 ab ao ay az af)|(go_at_call 208;refine cY (HL.out _) ?_))
 go_loopw [0,4,5] (yvr L w) (fun sv _ _ _=>yag sv)
 case atStart=>exact⟨T,0,0,none,0,rfl,by have:=tO.out;omega,aL bH.out,rfl,aL rfl,by rw[Na.rY];rfl,by rw[Na.rY];simp,aL (by rw[Na.rY];exact Sl.nil _ _ _),aL (by rw[Na.rY];exact Own.nil _ _ _),aL ao⟩
 case round=>
  obtain⟨t,k,x,a,c,rfl,hk,HT,rfl,HX,rfl,aH,H,LA,bF⟩:=hrel;by_cases h0:0<t.size
  ·obtain⟨n,hn⟩:=bx (min 9 t.size);have Bo:min (9:Int) (t.size:Int)=(n:Int):=aG;have qg:1<=n/\n<=9/\n<=t.size:=aG;obtain⟨qg,RU,hnt⟩:=qg;obtain⟨U,hU⟩:=bx (t.extract 0 n);obtain⟨R,K⟩: ∃ U,U=t.extract n t.size:=⟨_,rfl⟩;have W:U.data.toList=(L.drop k).take n:=by rw[hU,SK,sc,zF,HT.out]
   have Ol:U.size=n:=by rw[hU,LM];omega
   have kL:R.size+n=t.size:=by rw[K,LM];omega
   have dK:=aL (show R.data.toList=L.drop (k+n) by rw[K,vL,HT.out,EQ])
   have On:U.data.toList.all Na.isD=true:=by rw[W,na];intro y I;exact na.1 XM.out y (LK (yaj I))
   have S:=aL (fun w=>yog U w On ⟨by omega,by omega⟩);have u:=Na.ypx L k n;rw[<-W,<-HX.out,dN,Ol] at u;have f:=Na.ykx _ On;rw[dN,Ol] at f;obtain⟨v,hv⟩:=bx (Na.num U.data.toList);rw[<-hv] at u S f;have VX:v<1000000000:=eR f (hJ (n:=10) bL RU);obtain⟨P,M⟩:=bx (10^n);have xN:(Na.cl P).length <=256:=(Na.Da P 256).2 (wx (show P<=1000000000 by rw[M];exact hJ (n:=10) bL RU) tX);have MW:=fun w=>L5 (10:Nat) (n:Int) w aG aG
   have mg:Na.pow (10:Nat) (n:Int)=(Na.cl P,0):=by rw[Na.pow,bv aG,bv aG,jJ,jJ,<-M,Na.fits,bv aG]
   rw[mg] at MW;have PO:=aL (show ∀ w,Calls prog 176 #[.int .i64 10,.int .i64 n] w (ln (Na.cl P,0) w) from MW)
   have nr:Na.mul (Na.cl x) (Na.cl P)=Na.fits (x*P):=by rw[Na.mul,bv (by simp[Na.big,Na.PU];exact⟨aH,xN⟩),Na.nK,Na.nK]
   have B:=aL (fun w1 l j (hs:Sl w1 a c (Na.cl x)) (GT:Sl w1 l j (Na.cl P))=>(by
    have:=ycx a c (Na.cl x) l j (Na.cl P) w1 hs GT aG aG
    rwa[nr] at this:Calls prog 177 #[.slice a (Na.cl x).length c,.slice l (Na.cl P).length j] w1 (ln (Na.fits (x*P)) w1)))
   have A5:=Na.ywQ L (k+n);rw[<-M] at u;have m:=aL u;have hRE:=K.symm;have hUE:=hU.symm;have Q:=bF.out.size;clear hn W On hv MW mg M u nr f K hU
   have d: ∀ o w3 w4:World,Below wr.heap.size wr o->Below o.heap.size o w3->Below w3.heap.size w3 w4->Below w.heap.size w w4/\w.heap.size<=w3.heap.size:=fun _ _ _ O X h4=>
    ⟨bF.out.trans ((O.mono Q).trans ((X.mono (dE Q O.size)).trans (h4.mono (dE Q (dE O.size X.size))))),dE Q (dE O.size X.size)⟩
   have V:=aL d;clear d;by_cases D:256<(Na.cl (x*P)).length
   ·have b:Na.fits (x*P)=([],2):=bT D;rw[b] at B
    have E:=aL (show Na.parse s.data.toList=([],2) by rw[E2.out];exact Na.ymc b (by have:=m.out;omega))
    clear b D m A5;go_wp2_with (first|(go_at_call 96;refine cp (S.out _) ?_;intro o hb2;have r:=H.out.on hb2)|(go_at_call 176;refine cV (PO.out _) ?_;rintro e w3 ⟨a3,c3,rfl,q,dx,i⟩;have A:=r.on i)|(go_at_call 177;refine cV (B.out _ _ _ A q) ?_;rintro e w4 ⟨a4,c4,rfl,G,cj,z⟩))
    refine eB (v:= .tuple #[.slice none 0 0,.int .i64 2]) L3 rfl (by rw[E.out];exact⟨none,0,rfl,Sl.nil _ _ _,Own.nil _ _ _,(V.out _ _ _ hb2 i z).1⟩)
   ·have b:Na.fits (x*P)=(Na.cl (x*P),0):=bv D;rw[b] at B;have f:(Na.cl v).length <=256:=(Na.Da v 256).2 (eR VX tX)
    have oN:Na.add (Na.cl (x*P)) (Na.cl v)=Na.fits (x*P+v):=by rw[Na.add,bv (by simp[Na.big,Na.PU];exact⟨by omega,f⟩),Na.nK,Na.nK]
    have C:=aL (fun w1 l j Pb Pa (hs:Sl w1 l j (Na.cl (x*P))) (GT:Sl w1 Pb Pa (Na.cl v))=>(by
     have:=ywR l j (Na.cl (x*P)) Pb Pa (Na.cl v) w1 hs GT aG aG
     rwa[oN] at this:Calls prog 281 #[.slice l (Na.cl (x*P)).length j,.slice Pb (Na.cl v).length Pa] w1 (ln (Na.fits (x*P+v)) w1)))
    have wK:=aL (fun w=>yb3 v aG w);clear b oN;by_cases F:256<(Na.cl (x*P+v)).length
    ·have b:Na.fits (x*P+v)=([],2):=bT F;rw[b] at C
     have E:=aL (show Na.parse s.data.toList=([],2) by rw[E2.out];exact Na.ymc b (by have:=m.out;omega))
     clear b D F m A5 f;go_wp2_with (first|(go_at_call 96;refine cp (S.out _) ?_;intro o hb2;have r:=H.out.on hb2)|(go_at_call 176;refine cV (PO.out _) ?_;rintro e w3 ⟨a3,c3,rfl,q,dx,i⟩;have A:=r.on i)|(go_at_call 177;refine cV (B.out _ _ _ A q) ?_;rintro e w4 ⟨a4,c4,rfl,G,cj,z⟩)|(go_at_call 140;refine cV (wK.out _) ?_;rintro e w5 ⟨g5,rfl,xx,Z,g⟩;have Os:=Z.sl (Na.zh v) cm;have Ot:=G.on g)|(go_at_call 281;refine cV (C.out _ _ _ _ _ Ot Os) ?_;rintro e w6 ⟨a6,c6,rfl,Kh,eU,Y⟩))
     have d:=V.out _ _ _ hb2 i z;refine eB (v:= .tuple #[.slice none 0 0,.int .i64 2]) L3 rfl (by rw[E.out];exact⟨none,0,rfl,Sl.nil _ _ _,Own.nil _ _ _,d.1.trans ((g.mono d.1.size).trans (Y.mono (dE d.1.size g.size)))⟩)
    ·have b:Na.fits (x*P+v)=(Na.cl (x*P+v),0):=bv F;rw[b] at C;have Jh:=aL (show x*P+v=Na.num (L.take (k+n)) from m.out.symm);have xm:(Na.cl (x*P+v)).length <=256:=aG;obtain⟨y,I⟩:=bx (x*P+v);rw[<-I] at C Jh xm;clear b D F m A5 f I;go_wp2_with (first|(go_at_call 96;refine cp (S.out _) ?_;intro o hb2;have r:=H.out.on hb2)|(go_at_call 176;refine cV (PO.out _) ?_;rintro e w3 ⟨a3,c3,rfl,q,dx,i⟩;have A:=r.on i)|(go_at_call 177;refine cV (B.out _ _ _ A q) ?_;rintro e w4 ⟨a4,c4,rfl,G,cj,z⟩)|(go_at_call 140;refine cV (wK.out _) ?_;rintro e w5 ⟨g5,rfl,xx,Z,g⟩;have Os:=Z.sl (Na.zh v) cm;have Ot:=G.on g)|(go_at_call 281;refine cV (C.out _ _ _ _ _ Ot Os) ?_;rintro e w6 ⟨a6,c6,rfl,Kh,eU,Y⟩))
     have d:=V.out _ _ _ hb2 i z;have Df:=d.1.trans ((g.mono d.1.size).trans (Y.mono (dE d.1.size g.size)))
     have XG:Own w6 w.heap.size a6 (Na.cl y).length :=fun h0=>by obtain⟨b',o',e,jm,hf⟩:=eU h0;exact⟨b',o',e,dE (dE d.1.size g.size) jm,hf⟩
     go_roundw
     case rel=>exact⟨R,k+n,y,a6,c6,rfl,by omega,dK,rfl,Jh,rfl,xm,aL Kh,aL XG,aL Df⟩
     case measure=>simp only[yag];omega
  ·have h00:t.size=0:=aG;obtain rfl:k=L.length:=aG
   have E:=aL (show Na.parse s.data.toList=(Na.cl x,0) by
    have hx:x=Na.num L:=by have:=HX.out;rwa[zD] at this
    rw[E2.out,Na.fits,<-hx,bv aG])
   go_wp2_with fail
   refine eB (v:= .tuple #[.slice a (Na.cl x).length c,.int .i64 0]) L3 rfl (by rw[E.out];exact⟨a,c,rfl,H.out,LA.out,bF.out⟩)
def yhh (s:ByteArray) (w:World) (a:s.size<=1000000000):Calls prog 264 #[.string s] w (ln (Na.parse s.data.toList) w):=by
 by_cases h:s.size=0
 ·exact ywj s w h
 ·cases hd:s.data.toList.all Na.isD with
  |false=>exact ysM s w aG a hd
  |true=>
   by_cases hl:3000<(s.data.toList.dropWhile (· ==48)).length
   ·exact yuL s w aG a hd hl
   ·exact yua s w aG a hd aG

def Onl.of {g:Nat} {w w':World} (hg:g<w.heap.size) (hb:Below w.heap.size w w'):Onl g w w':=⟨hb.mono (lY hg),fun _ _ h=>hb.block _ h⟩
def Onl.size {g:Nat} {w w':World} (h:Onl g w w'):w.heap.size<=w'.heap.size:=h.below.size
def Onl.cell {g k o:Nat} {w w':World} (h:Onl g w w') (a:k≠g) (hl:k<w.heap.size):w'.cell? ⟨k,o,none⟩=w.cell? ⟨k,o,none⟩:=sf (h.block k a hl)
def Onl.frozen {g k o:Nat} {w w':World} (h:Onl g w w') (a:k≠g) (hl:k<w.heap.size):w'.frozen? ⟨k,o,none⟩=w.frozen? ⟨k,o,none⟩:=ygq (h.block k a hl)
def wY (n:Int):Nat:=7*(n+400).toNat
structure Turn (b o:Nat) (w w':World):Prop where
 onl:Onl b w w'
 cell: ∀ o',o'<o∨o+7<=o'->w'.cell? ⟨b,o',none⟩=w.cell? ⟨b,o',none⟩
 frozen: ∀ o',w'.frozen? ⟨b,o',none⟩=w.frozen? ⟨b,o',none⟩
def Turn.refl (b o:Nat) (w:World):Turn b o w w:=⟨Onl.refl _ _,fun _ _=>rfl,fun _=>rfl⟩
def Turn.trans {b o:Nat} {x y z:World} (h:Turn b o x y) (k:Turn b o y z):Turn b o x z:=
 ⟨h.onl.trans k.onl,fun o' a=>(k.cell o' a).trans (h.cell o' a),fun o'=>(k.frozen o').trans (h.frozen o')⟩
def Turn.of {b o:Nat} {w w':World} (hl:b<w.heap.size) (hb:Below w.heap.size w w'):Turn b o w w':=
 ⟨Onl.of hl hb,fun _ _=>hb.cell (p:=⟨b,_,none⟩) hl,fun _=>hb.frozen (p:=⟨b,_,none⟩) hl⟩
def Turn.setCell {b o j:Nat} {w w':World} (h:Turn b o w w') (hj:o<=j/\j<o+7) (u:Value):Turn b o w (w'.setCell ⟨b,j,none⟩ u):=
 ⟨h.onl.setCell j u,fun o' a=>(tt _ ⟨b,j,none⟩ ⟨b,o',none⟩ _ ycW).trans (h.cell o' a),fun o'=>(qj ..).trans (h.frozen o')⟩
def Turn.drew {b o:Nat} {w w':World} (h:Turn b o w w'):Turn b o w w'.drew:=⟨⟨h.onl.below.drew,h.onl.block⟩,h.cell,h.frozen⟩
structure Slot0 (w:World) (b o:Nat):Prop where
 done:w.cell? ⟨b,o,none⟩=some (.int .u32 0)
 lock:w.cell? ⟨b,o+1,none⟩=some (.int .i32 0)
 hi:w.cell? ⟨b,o+3,none⟩=some (.int .u64 0)
 lo:w.cell? ⟨b,o+4,none⟩=some (.int .u64 0)
 e:w.cell? ⟨b,o+5,none⟩=some (.int .i64 0)
 all:w.cell? ⟨b,o+6,none⟩=some (.bool false)
structure Slot1 (w:World) (b o:Nat) (n:Int):Prop where
 done:w.cell? ⟨b,o,none⟩=some (.int .u32 1)
 hi:w.cell? ⟨b,o+3,none⟩=some (.int .u64 ((Fl.pwP n / 18446744073709551616:Nat):Int))
 lo:w.cell? ⟨b,o+4,none⟩=some (.int .u64 ((Fl.pwP n % 18446744073709551616:Nat):Int))
 e:w.cell? ⟨b,o+5,none⟩=some (.int .i64 (Fl.pwE n))
 all:w.cell? ⟨b,o+6,none⟩=some (.bool (Fl.pwA n))
def Slot0.far {w w':World} {b o k:Nat} (h:Slot0 w b o) (t:Turn b k w w') (a:o+7<=k∨k+7<=o):Slot0 w' b o:=
 ⟨(t.cell _ aG).trans h.done,(t.cell _ aG).trans h.lock,(t.cell _ aG).trans h.hi,(t.cell _ aG).trans h.lo,(t.cell _ aG).trans h.e,(t.cell _ aG).trans h.all⟩
def Slot1.far {w w':World} {b o k:Nat} {n:Int} (h:Slot1 w b o n) (t:Turn b k w w') (a:o+7<=k∨k+7<=o):Slot1 w' b o n:=
 ⟨(t.cell _ aG).trans h.done,(t.cell _ aG).trans h.hi,(t.cell _ aG).trans h.lo,(t.cell _ aG).trans h.e,(t.cell _ aG).trans h.all⟩
def Slot0.on {w w':World} {b o:Nat} (h:Slot0 w b o) (hl:b<w.heap.size) (hb:Below w.heap.size w w'):Slot0 w' b o:=
 ⟨(hb.cell (p:=⟨b,_,none⟩) hl).trans h.done,(hb.cell (p:=⟨b,_,none⟩) hl).trans h.lock,(hb.cell (p:=⟨b,_,none⟩) hl).trans h.hi,(hb.cell (p:=⟨b,_,none⟩) hl).trans h.lo,(hb.cell (p:=⟨b,_,none⟩) hl).trans h.e,(hb.cell (p:=⟨b,_,none⟩) hl).trans h.all⟩
def Slot1.on {w w':World} {b o:Nat} {n:Int} (h:Slot1 w b o n) (hl:b<w.heap.size) (hb:Below w.heap.size w w'):Slot1 w' b o n:=
 ⟨(hb.cell (p:=⟨b,_,none⟩) hl).trans h.done,(hb.cell (p:=⟨b,_,none⟩) hl).trans h.hi,(hb.cell (p:=⟨b,_,none⟩) hl).trans h.lo,(hb.cell (p:=⟨b,_,none⟩) hl).trans h.e,(hb.cell (p:=⟨b,_,none⟩) hl).trans h.all⟩
structure Rdr (w:World) (b:Nat):Prop where
 lt:b<w.heap.size
 free: ∀ o,w.frozen? ⟨b,o,none⟩=false
 slot: ∀ n:Int, -400<=n->n<=400->Slot0 w b (wY n)∨Slot1 w b (wY n) n
def Rdr.on {w w':World} {b:Nat} (h:Rdr w b) (hb:Below w.heap.size w w'):Rdr w' b:=
 ⟨eR h.lt hb.size,fun o=>(hb.frozen (p:=⟨b,o,none⟩) h.lt).trans (h.free o),fun n c a=>(h.slot n c a).imp (fun s=>s.on h.lt hb) (fun s=>s.on h.lt hb)⟩
def yky {n m:Int} (hn: -400<=n) (hm: -400<=m) (h:n≠m):wY m+7<=wY n∨wY n+7<=wY m:=by unfold wY;omega
def Rdr.turn {w w':World} {b:Nat} {n:Int} (h:Rdr w b) (hn: -400<=n) (t:Turn b (wY n) w w') (c:Slot1 w' b (wY n) n):Rdr w' b:=by
 refine⟨eR h.lt t.onl.size,fun o=>(t.frozen o).trans (h.free o),fun m a d=>?_⟩;by_cases e:n=m
 ·subst e;exact Or.inr c
 ·exact(h.slot m a d).imp (fun s=>s.far t (yky hn a e)) (fun s=>s.far t (yky hn a e))
def RetR (b:Nat) (v:Value) (w:World) (e:Ending) (w':World):Prop:=e= .returned v/\Onl b w w'/\Rdr w' b
def Rdr.onl {w w':World} {b:Nat} (hb:Below w.heap.size w w') (a:Rdr w b):Onl b w w':=Onl.of a.lt hb

section
open Go
def Fl.yk4 {x X:Nat} (hx:x<9218868437227405312) (h:Fl.V x=X*2^Fl.low) (b:0<X):Fl.kind x=2:=by
 obtain⟨c, -,hV⟩:=Fl.ydD hx;rcases Fl.yg1 x with ⟨k,m,e⟩|⟨k,m,e⟩|⟨k,m,e⟩
 ·exfalso;rw[h,m,e,show((-1074:Int)+1074).toNat =0 by decide,xV,oU] at hV;have d:Fl.frac x<2^52:=by unfold Fl.frac;omega
  have f:2^52<=2^Fl.low:=hJ bL (by unfold Fl.low;omega);have a:=iS (2^Fl.low) (show 1<=X from b);rw[nW] at a;omega
 ·exact k
 ·omega
def Fl.ydx {i:Nat} (hi:i<=22):Fl.kind (Fl.rd (10^i) 0 false)=2:=by obtain⟨b,a⟩:=Fl.RH hi;exact Fl.yk4 a b (fp bL)
def Fl.ymA {m:Nat} (c:0<m) (hm:m<9007199254740992):Fl.kind (Fl.rd m 0 false)=2:=by obtain⟨b,a⟩:=Fl.yaW hm;exact Fl.yk4 a b c
end

def capB (c:UInt8):UInt8:=if 97<=c.toNat/\c.toNat<=122 then c-32 else c
def ywE {c:UInt8} (h:97<=(c.toNat:Int)) (a:(c.toNat:Int)<=122):((capB c).toNat :Int)=(c.toNat:Int)-32:=by unfold capB;rw[bT aG,ygY _ _ (by simp[ykn];omega)];simp;omega
def ytg {c:UInt8} (h: ¬ (97<=(c.toNat:Int)/\(c.toNat:Int)<=122)):capB c=c:=by unfold capB;rw[bv aG]

namespace Fx
open Dc (Bs cu)
def ykq {l:Bs} (h:l.all cu=true):0<=upTo l/\upTo l<=1000000000:=by
 unfold upTo
 have a:Dc.jQ l=((fold 0 l:Nat):Int):=by have:=yi7 l h 0;exact this
 omega
def yie (q:UInt8->Bool) (l:Bs):(l.takeWhile q).all q=true:=by
 induction l with
 |nil=>rfl
 |cons c l a=>
  by_cases h:q c=true
  ·rw[Wt h,qb,h,a];rfl
  ·rw[J6 h];rfl
def ysN (s:Bs): -1000000000<=(expo s).1 /\(expo s).1 <=1000000000:=by
 unfold expo;split
 ·exact⟨by simp,by simp⟩
 ·rename_i c r
  split
  ·split
   ·exact⟨by simp,by simp⟩
   ·rename_i d q
    have b:=ykq (yie cu q);have a:=ykq (yie cu (d::q));split
    ·split
     ·exact⟨by simp,by simp⟩
     ·simp only;split<;>omega
    ·split
     ·exact⟨by simp,by simp⟩
     ·simp only;omega
  ·exact⟨by simp,by simp⟩
def ytr {D L:UInt8} {l:Bs} (h:(tok D L l).kind =1): -1000000000-(l.length:Int)<=(tok D L l).exp /\(tok D L l).exp <=1000000000:=by
 have hl:=yP l;unfold tok at *
 cases e:skip l with
 |nil=>rw[e] at h;cases h
 |cons c r=>
  rw[e] at h hl
  unfold tokS at *
  simp only at *
  split at h
  ·rename_i d
   rw[bT d]
   unfold ou
   simp only
   have a:=ysN (mant D (c::r)).2.2
   have b:=yhq D (c::r)
   omega
  ·split at h
   ·split at h<;>simp at h
   ·split at h
    ·simp at h
    ·split at h
     ·simp at h
     ·split at h<;>simp at h
def ycq (q:UInt8->Bool) (l:Bs):(l.takeWhile q).length +(l.dropWhile q).length =l.length:=by rw[<-List.length_append,sI]
def yi3 (D:UInt8) (s:Bs):(mant D s).1.length <=s.length:=by
 unfold mant;have a:=ycq cu s;split
 ·rename_i r h
  have b:=N1 h;have c:=ycq cu r;rw[b] at a;simp only[j2,gE] at a ⊢;omega
 ·simp only;omega
def yo9 {D L:UInt8} {l:Bs} (h:(tok D L l).kind =1):(tok D L l).text.length <=l.length:=by
 have hl:=yP l;unfold tok at *
 cases e:skip l with
 |nil=>rw[e] at h;cases h
 |cons c r=>
  rw[e] at h hl
  unfold tokS at *
  simp only at *
  split at h
  ·rename_i a
   rw[bT a]
   unfold ou
   simp only
   have b:=yi3 D (c::r)
   omega
  ·split at h
   ·split at h<;>simp at h
   ·split at h
    ·simp at h
    ·split at h
     ·simp at h
     ·split at h<;>simp at h
def ywH {D L:UInt8} {l:Bs} (h:(tok D L l).kind =3):(tok D L l).text.length <=l.length:=by
 have hl:=yP l;unfold tok at *
 cases e:skip l with
 |nil=>rw[e] at h;cases h
 |cons c r=>
  rw[e] at h hl
  unfold tokS at *
  simp only at *
  split at h
  ·simp[ou] at h
  ·rename_i d
   rw[bv d]
   split at h
   ·split at h<;>simp at h
   ·rename_i b
    rw[bv b]
    split at h
    ·rename_i a
     rw[bT a]
     simp only
     have:=ycq j1 (c::r)
     omega
    ·split at h
     ·simp at h
     ·split at h<;>simp at h
def ypj {s t l:Bs} (h:quot s=some (t,l)):t.length<=s.length:=by
 induction s using quot.induct generalizing t l with
 |case1=>simp[quot] at h
 |case2 s a=>
  rw[quot] at h
  cases e:quot s with
  |none=>rw[e] at h;simp at h
  |some p=>rw[e] at h;simp only[yd,vO,st] at h;have:=a (t:=p.1) (l:=p.2) e;simp only[gE];rw[<-h.1];simp only[gE];omega
 |case3 s b=>
  rw[quot] at h
  ·simp only[lG,vO,st] at h;rw[<-h.1];exact iH _
  ·exact b
 |case4 c s b d a=>
  rw[quot] at h
  ·rw[bv d] at h
   cases e:quot s with
   |none=>rw[e] at h;simp at h
   |some p=>rw[e] at h;simp only[yd,vO,st] at h;have:=a (t:=p.1) (l:=p.2) e;simp only[gE];rw[<-h.1];simp only[gE];omega
  ·exact b
def ysE (D L:UInt8) (s:Bs):(tokS D L s).text.length <=s.length:=by
 cases s with
 |nil=>exact cm
 |cons c r=>
  unfold tokS
  simp only
  split
  ·unfold ou;exact yi3 D (c::r)
  ·split
   ·split
    ·rename_i t l e
     have:=ypj e
     simp only[gE];omega
    ·exact iH _
   ·split
    ·have:=ycq j1 (c::r)
     simp only;omega
    ·split
     ·exact iH _
     ·split
      ·rename_i g e
       exact ydU (Om e).2.2
      ·exact iH _
def ywC (D L:UInt8) (l:Bs):(tok D L l).text.length <=l.length:=dE (ysE D L (skip l)) (yP l)
end Fx



def RowG (w:World) (base:Nat) (T:TypeId) (b:Nat) (v:Value) (n:Nat) (xs:List Value):Prop:=
 (∃ a cap,v= .slice a n cap)/\w.ownsRow base T b v n xs
def RowG.nil (w:World) (base:Nat) (T:TypeId) (a:Nat):RowG w base T a (.slice none 0 0) 0 []:=⟨⟨none,0,rfl⟩,World.ownsRow_nil _ _ _ _⟩
def RowG.of {w:World} {base n m a:Nat} {T:TypeId} {v:Value} {xs ys:List Value} (h:w.ownsRow base T a v n xs) (hn:n=m) (hx:xs=ys):RowG w base T a v m ys:=by
 subst hn hx;refine⟨?_,h⟩;rcases h.2 with ⟨rfl,b⟩|⟨g,cap,cur,rfl,_⟩
 ·exact⟨none,0,by rw[b]⟩
 ·exact⟨_,cap,rfl⟩
def RowG.kept {w w':World} {base n a:Nat} {T:TypeId} {v:Value} {xs:List Value} (h:RowG w base T a v n xs) (b: ∀ k,v.ownBlock=some k->w'.heap[k]? =w.heap[k]?):RowG w' base T a v n xs:=by
 refine⟨h.1,h.2.1,?_⟩;rcases h.2.2 with c|⟨g,cap,cur,rfl,hb,hg,r⟩
 ·exact .inl c
 ·exact .inr ⟨g,cap,cur,rfl,hb,(b g rfl).trans hg,r⟩
def RowG.lt {w:World} {base n b:Nat} {T:TypeId} {v:Value} {xs:List Value} (h:RowG w base T b v n xs) {k:Nat} (a:v.ownBlock=some k):base<=k/\k<w.heap.size:=by
 rcases h.2.2 with ⟨rfl,_⟩|⟨g,cap,cur,rfl,hb,hg,r⟩
 ·cases a
 ·obtain rfl:g=k:=by simpa[Value.ownBlock] using a
  exact⟨hb,(yX.1 hg).1⟩
def RowG.below {w w':World} {base n a B:Nat} {T:TypeId} {v:Value} {xs:List Value} (h:RowG w base T a v n xs) (hb:Below B w w') (c:w.heap.size<=B):RowG w' base T a v n xs:=
 h.kept fun k b=>hb.block k (eR (h.lt b).2 c)
def RowG.on {w w':World} {base n a:Nat} {T:TypeId} {v:Value} {xs:List Value} (h:RowG w base T a v n xs) (hb:Below w.heap.size w w'):RowG w' base T a v n xs:=h.below hb cm
def RowG.get {w:World} {base n b:Nat} {T:TypeId} {v:Value} {xs:List Value} (h:RowG w base T b v n xs) (l:0<n): ∃ g cap,v= .slice (some ⟨g,0,none⟩) n cap/\base<=g/\g<w.heap.size/\n<=cap/\(∀ i u,xs[i]? =some u->w.cell? ⟨g,i,none⟩=some u)/\ ∀ i,w.frozen? ⟨g,i,none⟩=false:=by
 rcases h.2.2 with ⟨rfl,d⟩|⟨g,cap,cur,rfl,hb,hg,f,d,k,c⟩
 ·omega
 ·refine⟨g,cap,rfl,hb,(yX.1 hg).1,f,fun i u a=>?_,fun i=>?_⟩
  ·have hi:i<xs.length:=(o6.1 a).1;have e:w.cell? ⟨g,i,none⟩=cur[i]? :=by unfold World.cell?;simp only[];rw[hg];rfl
   have j:=h.2.1;rw[e,<-a,<-c,yev,bT aG,yhI]
  ·unfold World.frozen?;simp only[];rw[hg];simp
def yjN (w:World) (a:List Value) (t:TypeId) (j:Nat) (u:Value) (h:a[j]? =some u):(w.alloc (.cells a.toArray t)).cell? ((⟨w.heap.size,0,none⟩:Addr).add j)=some u:=by
 have b:(⟨w.heap.size,0,none⟩:Addr).add j=⟨w.heap.size,j,none⟩:=by
  unfold Addr.add;split
  ·rename_i e;subst e;rfl
  ·simp
 rw[b];exact(Cs.new w a t).get j h

def dcEq (f c:Bool) (e b:ByteArray) (d a:Int):Bool:=f==c&&(e.toList==b.toList&&d==a)
def yoZ:prog.underlying 139=some (.struct (prog.fieldsOf 139)):=cI
def yrM:prog.stoodInHeld 139=false:=cI
def ywe:prog.eqGuardType prog.depth 139=false:=cI
def ymK:(prog.fieldsOf 139).toList.map (fun f=>(f.type,f.offset,f.name== "_"))=[(4,0,false),(9,1,false),(3,2,false)]:=cI
def yeR (op:BinOp) (x y:Operand) (xs ys:Array Value) (w:World):(eqGuard op 139 x y (.agg xs) (.agg ys)).run prog w= .ok () w:=yeh _ _ _ _ _ _ _ ywe
def ytT (j g:Bool) (i f:ByteArray) (h e:Int) (w:World):
 (Op.equalIn 10000 139 (.agg #[.bool j,.string i,.int .i64 h]) (.agg #[.bool g,.string f,.int .i64 e])).run prog w= .ok (dcEq j g i f h e) w:=by
 rw[ye2 _ 9999 _ _ _ yoZ yrM];have d:=ymK;generalize (prog.fieldsOf 139).toList =k at d;have hl:=dZ List.length d;rw[G0] at hl
 obtain⟨n,m,l,rfl⟩: ∃ n m l,k=[n,m,l]:=by
  match k,hl with
  | [a,b,c],_=>exact⟨a,b,c,rfl⟩
 simp only[ya,M8,yaw,st,Xy] at d;obtain⟨⟨t0,s,v⟩,⟨p,r,u⟩,⟨o,q,t⟩⟩:=d;have z:=gN.1 v;have y:=gN.1 u;have x:=gN.1 t;simp[Op.eqFields,dcEq,go_sem,t0,p,o,s,r,q,z,y,x,underlying3,underlying4,underlying9];by_cases C:j=g<;>by_cases B:i.toList=f.toList<;>by_cases A:h=e<;>simp[C,B,A]
def ymE (f c:Bool) (e b:ByteArray) (d a:Int) (w:World):
 (binOp .neq 139 (.agg #[.bool f,.string e,.int .i64 d]) (.agg #[.bool c,.string b,.int .i64 a])).run prog w= .ok (.bool (!(dcEq f c e b d a))) w:=by
 rw[ydW,ytT];rfl

def ylP (b:Bool) (w:World):Calls prog 82 #[.bool b] w (Ret0 (.string ⟨(Ce.mark b).toArray⟩) w):=by
 cases b with
 |true=>
  go_enter func82,ntmps82
  exact yj
 |false=>
  go_enter func82,ntmps82
  exact yj
def ytE (c:UInt8):(⟨#[c]⟩:ByteArray).size =1:=rfl
def yu6: ∀ m:Fin 26,(Utf8.encode (65+(m.1:Int))).data.toList =[UInt8.ofNat (65+m.1)]:=bL
def yq6 (k:Int):(Utf8.encode (65+k % 26)).data.toList =[UInt8.ofNat (65+(k % 26).toNat)]:=by have:=yu6 ⟨(k % 26).toNat,by omega⟩;rw[show(((⟨(k % 26).toNat,by omega⟩:Fin 26).1 :Nat):Int)=k % 26 by simp only;omega] at this;exact this
def yp0 (n:Nat) (hn:n<64) (w:World):Calls prog 83 #[.int .i64 n] w (Ret0 (.string ⟨(Ce.rc n).toArray⟩) w):=by
 obtain⟨L,f⟩:=bx (⟨(Ce.rc n).toArray⟩:ByteArray);rw[<-f];have j:=aL f;clear f;go_enter func83,ntmps83
 go_wp2_with fail
 go_loop [0,3] (fun m s=> ∃ (k:Int) (S:ByteArray), -1<=k/\k<=63/\m= .int .i64 k/\s= .string S/\(k=n/\S=⟨#[]⟩∨26<=n/\k=(n:Int) / 26-1/\S=⟨#[UInt8.ofNat (65+n % 26)]⟩∨k= -1/\S=L)) (fun m _=>(intOf m+1).toNat)
 case atStart=>exact⟨n,⟨#[]⟩,by omega,by omega,rfl,rfl,.inl ⟨rfl,rfl⟩⟩
 case round=>
  obtain⟨k,S,v,x,rfl,rfl,i⟩:=hrel;have g:=aL i;clear i;by_cases y:0<=k
  ·have a:=yq6 k;obtain⟨E,q⟩: ∃ E,Utf8.encode (65+k % 26)=E:=⟨_,rfl⟩;rw[q] at a;have r:E.size=1:=by have:=dZ List.length a;rw[dN] at this;simpa using this
   have t:S.size<=2:=by
    rcases g.out with ⟨_,e⟩|⟨_,_,e⟩|⟨e,_⟩
    ·rw[e];decide
    ·rw[e,ytE];omega
    ·omega
   have u: ¬ 9223372036854775807<E.size+S.size:=aG;have d:=aL a;clear a r t;go_wp2
   go_round
   case rel=>
    refine⟨k / 26-1,E++S,by omega,by omega,rfl,rfl,?_⟩;rcases g.out with ⟨c,b⟩|⟨z,c,b⟩|⟨c,_⟩
    ·by_cases l:n<26
     ·right;right;refine⟨by omega,?_⟩;rw[j.out];refine Dc.qR _ _ ?_;rw[Dc.qm,d.out,b,Ce.rc,bT l];simp only[rm];congr 2;omega
     ·right;left;refine⟨by omega,by omega,?_⟩;refine Dc.qR _ _ ?_;rw[Dc.qm,d.out,b];simp only[rm];congr 2;omega
    ·right;right;refine⟨by omega,?_⟩;rw[j.out];refine Dc.qR _ _ ?_;rw[Dc.qm,d.out,b,Ce.rc,bv aG];simp only[lB,xi];congr 2;omega
    ·omega
   case measure=>simp[intOf];omega
  ·have o:S=L:=by
    rcases g.out with ⟨c,_⟩|⟨_,c,_⟩|⟨_,e⟩
    ·omega
    ·omega
    ·exact e
   subst o;exact yj

def yu0 (c d:Int) (a b:Bool) (w:World) (h:Ce.right ⟨c,d,a,b⟩=false):Calls prog 48 #[.agg #[.int .i64 c,.int .i64 d,.bool a,.bool b]] w (RetB (.string ⟨#[]⟩) w):=by
 have e:=fun w=>LZ c d a b w;rw[h] at e;have f:=aL e;clear e h;go_enter func48,ntmps48
 go_wp2_with (go_at_call 69;refine cp (f.out _) ?_;refine pt ?_;intro g u m j i t r n o q s l)
 go_ret
 exact qO
def yqB (c d:Nat) (a b:Bool) (w:World) (x:Tab w) (y:c<64) (hd:d<1000) (h:Ce.right ⟨c,d,a,b⟩=true):
 Calls prog 48 #[.agg #[.int .i64 c,.int .i64 d,.bool a,.bool b]] w (RetB (.string ⟨(Ce.print ⟨c,d,a,b⟩).toArray⟩) w):=by
 have t:=fun w=>LZ c d a b w;rw[h] at t;obtain⟨i,j⟩: ∃ M:ByteArray,M=⟨(Ce.mark a).toArray⟩:=⟨_,rfl⟩;obtain⟨q,l⟩: ∃ M:ByteArray,M=⟨(Ce.mark b).toArray⟩:=⟨_,rfl⟩;obtain⟨L,n⟩: ∃ M:ByteArray,M=⟨(Ce.rc c).toArray⟩:=⟨_,rfl⟩;obtain⟨I,o⟩: ∃ M:ByteArray,M=⟨(Lib.itoa ((d:Int)+1)).toArray⟩:=⟨_,rfl⟩;have s:=fun W=>ylP a W;have r:=fun W=>ylP b W;have hn:=fun W=>yp0 c y W;have hi:=fun W (hb:Below w.heap.size w W)=>yc2 ((d:Int)+1) W aG aG (x.on hb);rw[<-j] at s;rw[<-l] at r;rw[<-n] at hn;rw[<-o] at hi;have z1:i.size<=1:=by rw[j,nm];unfold Ce.mark;split<;>simp
 have z2:q.size<=1:=by rw[l,nm];unfold Ce.mark;split<;>simp
 have z3:L.size<=3:=by rw[n,nm];exact(Ce.ydf ⟨c,y⟩).2.2.2.1
 have z4:I.size<=30:=by rw[o,nm];exact Dc.M2 _ aG
 obtain⟨V,hV⟩:=bx (⟨(Ce.print ⟨c,d,a,b⟩).toArray⟩:ByteArray);rw[<-hV]
 have v:V=i++L++q++I:=by
  rw[hV];refine(Dc.qR _ _ ?_).symm;rw[Ce.print,bT h,Dc.qm,Dc.qm,Dc.qm,j,l,n,o];have z:Lib.itoa ((d:Int)+1)=Lib.decDigits (((d:Int)+1).toNat):=by rw[Lib.itoa,bv aG]
  simp only[jJ,z];simp
 have s1: ¬ 9223372036854775807<i.size+L.size:=aG;have Z: ¬ 9223372036854775807<i.size+L.size+q.size:=aG;have Y: ¬ 9223372036854775807<i.size+L.size+q.size+I.size:=aG;obtain⟨R,X,U,S,T,Q⟩:=ts t s r hn hi v;clear t h s r hn hi v hV j l n o x;have d1:(d:Int)+1<=1000:=aG;go_enter func48,ntmps48
 go_wp2_with (go_at_call 69;refine cp (R.out _) ?_;refine pt ?_;intro f O u J H af N am al aj g K)
 have G:f.cell? ⟨w.heap.size,0,none⟩=some (.int .i64 c):=(g 0).trans Ci;have F:f.cell? ⟨w.heap.size,1,none⟩=some (.int .i64 d):=(g 1).trans Ci;have E:f.cell? ⟨w.heap.size,2,none⟩=some (.bool a):=(g 2).trans Ci;have D:f.cell? ⟨w.heap.size,3,none⟩=some (.bool b):=(g 3).trans Ci;have m:=N;have A:=aL u;have hz:=u.size;clear O u J H g K;have z:IntKind.i64.wrap ((d:Int)+1)=(d:Int)+1:=P7 _ aG
 go_region_held3 (fun w'=>w'.cell? ⟨w.heap.size,0,none⟩=some (.int .i64 c)/\w'.cell? ⟨w.heap.size,1,none⟩=some (.int .i64 d)/\w'.cell? ⟨w.heap.size,2,none⟩=some (.bool a)/\w'.cell? ⟨w.heap.size,3,none⟩=some (.bool b))
  (first|go_keep|exact⟨(oL (B:=f.heap.size) (w:=f) (p:=⟨w.heap.size,0,none⟩) dt m).trans G,(oL (B:=f.heap.size) (w:=f) (p:=⟨w.heap.size,1,none⟩) dt m).trans F,(oL (B:=f.heap.size) (w:=f) (p:=⟨w.heap.size,2,none⟩) dt m).trans E,(oL (B:=f.heap.size) (w:=f) (p:=⟨w.heap.size,3,none⟩) dt m).trans D⟩)
  (first|(go_at_call 82;refine cY (X.out _) ?_)|(go_at_call 82;refine cY (U.out _) ?_)|(go_at_call 83;refine cY (S.out _) ?_)|(go_at_call 84;(with_reducible refine(T.out _ (A.out.trans ((by(repeat(first|exact eN|assumption|refine vh ?_ mY _|refine vc ?_ mY _|refine vr ?_|refine oY ?_ _)):Below f.heap.size f _).mono hz))).mono ?_);rintro e C ⟨rfl,P⟩;have aI:Below f.heap.size f C:=yY dt (P.mono mY)))
 all_goals go_wp2
 all_goals go_ret
 all_goals exact RetB.of (dZ Value.string Q.out.symm) (A.out.trans ((by(repeat(first|exact eN|assumption|refine vh ?_ mY _|refine vc ?_ mY _|refine vr ?_|refine oY ?_ _)):Below f.heap.size f _).mono hz))





def yea (c d:Int) (a b:Bool) (w:World) (e:Tab w):Calls prog 48 #[.agg #[.int .i64 c,.int .i64 d,.bool a,.bool b]] w (RetB (.string ⟨(Ce.print ⟨c,d,a,b⟩).toArray⟩) w):=by
 cases h:Ce.right ⟨c,d,a,b⟩ with
 |false=>rw[Ce.print,bv (by rw[h];simp)];exact yu0 c d a b w h
 |true=>
  obtain⟨j,i,g,f⟩:=(Ce.Tv _).1 h
  simp only at j i g f
  obtain⟨l,rfl⟩: ∃ n:Nat,c=n:=⟨c.toNat,by omega⟩
  obtain⟨k,rfl⟩: ∃ n:Nat,d=n:=⟨d.toNat,by omega⟩
  exact yqB l k a b w e aG aG h

namespace Fl
open Go
end Fl

namespace Fl
end Fl

def Dc.ymB (g l:Dc.Bs) (p:Int) (hl:l.length<=1100) (hg:g.length<=1) (a: -200000<=p/\p<=200000):(Dc.body g l p).length <=2000:=by
 have c:=Dc.M2 (p-1) aG;have b:=Dc.M2 (1-p) aG;unfold Dc.body;repeat' split
 all_goals simp[Dc.ybR]
 all_goals omega
def Fl.ykX (x:Nat):(Fl.oQ x).length <=2000:=by
 unfold Fl.oQ;split
 ·unfold Fl.qk;repeat' split
  all_goals decide
 ·by_cases a:Dc.right (Fl.wdec x).l (Fl.wdec x).x =true
  ·rw[Dc.print,bT a];have b:=Dc.xW a;have c:=Dc.sj a;exact Dc.ymB _ _ _ b (by split<;>decide) aG
  ·rw[Dc.print,bv a];decide

namespace Fx
open Dc (Bs cu)
def ylm (g N s:Bs) (hg:g≠[]) (a:g≠N):Lib.replaceAll s g N=Lib.replaceK g N (Lib.count s g) s:=by unfold Lib.replaceAll Lib.replace;rw[bv (by simpa using a),Lib.replaceNum,bT (.inl aG)]
def ykC (c:UInt8):Lib.index [] [c]= -1:=rfl
def ybG (c:UInt8) (t:Bs):Lib.index (c::t) [c]=(0:Nat):=by unfold Lib.index;rw[bT (by simp[List.isPrefixOf])];rfl
def yek (c d:UInt8) (t:Bs) (h:d≠c):Lib.index (d::t) [c]=if Lib.index t [c]== -1 then -1 else Lib.index t [c]+1:=by
 conv=>lhs;unfold Lib.index
 rw[bv (by simp[List.isPrefixOf,Pt h])]
def ygy: ∀ s:Bs,Lib.replaceAll s [34] [34,34]=dbl s
 | []=>by rw[ylm _ _ _ cn cn,ycc (ykC 34)];rfl
 |c::t=>by
  have a:=ygy t;rw[ylm _ _ _ cn cn] at a ⊢;rw[dbl];by_cases e:c=34
  ·subst e;rw[bT rfl,ybx cn (ybG 34 t),Ay,ybB _ _ _ _ 0 (ybG 34 t)];simpa using a
  ·rw[bv e];have hi:=yek 34 c t e;by_cases hm:Lib.index t [34]= -1
   ·have b:Lib.index (c::t) [34]= -1:=by rw[hi,hm];rfl
    rw[ycc hm] at a;rw[ycc b,<-a];rfl
   ·have j:=Xk t [34];obtain⟨i,d⟩: ∃ i:Nat,Lib.index t [34]=i:=⟨(Lib.index t [34]).toNat,by omega⟩;have b:Lib.index (c::t) [34]=((i+1:Nat):Int):=by rw[hi,bv (by simpa using hm),d];omega
    have f:=ybx cn b;have g:=ybx cn d;rw[show i+1+[(34:UInt8)].length =(i+[(34:UInt8)].length)+1 by omega,P3] at f;rw[g,Ay,ybB _ _ _ t i d] at a;rw[f,Ay,ybB _ _ _ (c::t) (i+1) b,<-a,show i+1+[(34:UInt8)].length =(i+[(34:UInt8)].length)+1 by omega,P3];simp
def yep (D:UInt8): ∀ s:Bs,Lib.index s [46]= -1->dot D s=s
 | [],_=>rfl
 |c::t,h=>by
  by_cases a:c=46
  ·subst a;rw[ybG] at h;omega
  ·rw[yek 46 c t a] at h;rw[dot,bv a];by_cases hm:Lib.index t [46]= -1
   ·rw[yep D t hm]
   ·rw[bv (by simpa using hm)] at h;have:=Xk t [46];omega
def yjy (D:UInt8): ∀ (s:Bs) (i:Nat),Lib.index s [46]=i->dot D s=s.take i++D::s.drop (i+1)
 | [],i,h=>by rw[ykC] at h;omega
 |c::t,i,h=>by
  by_cases a:c=46
  ·subst a;rw[ybG] at h;obtain rfl:i=0:=aG;rw[dot,bT rfl];rfl
  ·rw[yek 46 c t a] at h;have:=Xk t [46];by_cases hm:Lib.index t [46]= -1
   ·rw[hm] at h;simp at h
   ·rw[bv (by simpa using hm)] at h;obtain⟨j,rfl⟩: ∃ j:Nat,i=j+1:=⟨i-1,by omega⟩;rw[dot,bv a,yjy D t j aG];simp
def yox (D:UInt8) (s:Bs):Lib.replace s [46] [D] 1=dot D s:=by
 unfold Lib.replace;by_cases a:D=46
 ·subst a;rw[bT cn];by_cases hm:Lib.index s [46]= -1
  ·rw[yep 46 s hm]
  ·have:=Xk s [46];obtain⟨i,hi⟩: ∃ i:Nat,Lib.index s [46]=i:=⟨(Lib.index s [46]).toNat,by omega⟩;clear this hm
   have: ∀ s:Bs,dot 46 s=s:=by
    intro s
    induction s with
    |nil=>rfl
    |cons c t b=>rw[dot,b];split<;>simp_all
   exact(this s).symm
 ·rw[bv (by simpa using(Pt a))];by_cases hm:Lib.index s [46]= -1
  ·rw[yep D s hm,Lib.replaceNum,ycc hm,bT (.inr bL)];rfl
  ·have:=Xk s [46];obtain⟨i,hi⟩: ∃ i:Nat,Lib.index s [46]=i:=⟨(Lib.index s [46]).toNat,by omega⟩
   have hn:Lib.replaceNum s [46] 1=1:=by
    rw[Lib.replaceNum,bv]
    ·rfl
    ·rw[ybx cn hi];omega
   rw[hn,ybB _ _ 0 s i hi,yjy D s i hi];simp[Lib.replaceK]
def yhg (L:UInt8): ∀ a:List Bs,Lib.join a [L]=mt L a
 | []=>rfl
 | [s]=>by rw[Lib.join_one,mt]
 |s::t::r=>by have b:=yhg L (t::r);rw[Lib.join_cons] at b ⊢;rw[mt,<-b];simp[Lib.joinTail]
def ygM (L:UInt8): ∀ a:List Bs,(mt L a).length <=(a.map fun s=>s.length+1).sum
 | []=>by simp[mt]
 | [s]=>by simp[mt]
 |s::t::r=>by have b:=ygM L (t::r);rw[mt];simp only[ya,ycA,j2,gE] at b ⊢;omega
def yc9: ∀ s:Bs,(dbl s).length <=2*s.length
 | []=>by simp[dbl]
 |c::t=>by have:=yc9 t;rw[dbl];split<;>simp only[gE]<;>omega
def yig (D:UInt8): ∀ s:Bs,(dot D s).length =s.length
 | []=>rfl
 |c::t=>by
  rw[dot];split
  ·rfl
  ·simp[yig D t]
def yan (n:Nat) (k:Tr) (s:Bs):(par n k s).length <=s.length+2:=by
 unfold par;split
 ·simp
 ·omega
def yld (s:Bs) (h:0<eT s):s.length<=2:=by
 unfold eT at h;repeat' split at h
 all_goals(try omega)
 all_goals(rename_i a;rcases a with rfl|rfl|rfl|rfl|rfl|rfl<;>simp)<;>skip
def yiM (s:Bs) (h:oF s=true):s.length<=40:=by
 unfold oF at h
 cases s with
 |nil=>simp
 |cons c t=>simp at h;simp;omega
def Tt (r:Ce.Rf):(Ce.print r).length <=11:=by
 unfold Ce.print;split
 ·rename_i h
  have h:=(Ce.Tv r).1 h;have f:(Lib.decDigits (r.row+1).toNat).length <=7:=Ce.ylk _ aG;have a: ∀ b,(Ce.mark b).length <=1:=fun b=>by cases b<;>simp[Ce.mark]
  have e:(Ce.rc r.col.toNat).length <=2:=by unfold Ce.rc;split<;>simp
  have d:=a r.ac;have c:=a r.ar;simp only[j2];omega
 ·simp
def ymv (n:Int):(jq n).length <=7:=by
 unfold jq;repeat' split
 all_goals simp
def yk6: ∀ a:List Bs,(a.map fun s=>s.length+1).sum <=(a.map fun s=>s.length+3).sum
 | []=>by simp
 |s::r=>by have:=yk6 r;simp only[ya,ycA];omega
def ylI (D L:UInt8) (K:Int) (X:Nat) (T:Bs) (I:Bool) (F:Int) (A B:Ce.Rf) (b:List Tr) (a:List Bs):asm D L (.mk K X T I F A B b) a=
 (if K=1 then dot D (Fl.oQ X)
 else if K=2 then 34::(dbl T++[34])
 else if K=3 then(if I then[84,82,85,69] else[70,65,76,83,69])
 else if K=4 then jq F
 else if K=5 then Ce.print A
 else if K=6 then Ce.print A++58::Ce.print B
 else if K=7 then(match b,a with|k::_,s::_=>T++par 6 k s | _,_=>[])
 else if K=9 then(match b,a with|k::_,s::_=>par 7 k s++T | _,_=>[])
 else if K=8 then(match b,a with|k::m::_,s::r::_=>par (eT T) k s++(T++par (eT T+1) m r) | _,_=>[])
 else T++40::(mt L a++[41])):=rfl
def ynJ (D L:UInt8) (t:Tr) (a:List Bs) (h:g8 t=true):(asm D L t a).length <=4000+(a.map fun s=>s.length+3).sum :=by
 obtain⟨K,X,T,I,F,A,B,u⟩:=t;rw[sB] at h;have hz:=yk6 a;rw[ylI];repeat' split
 ·rw[yig];have:=Fl.ykX X;omega
 ·have:=yc9 T;have:T.length<=1000:=by subst_vars;simp at h;omega
  simp only[gE,j2,rp];omega
 ·simp;omega
 ·simp;omega
 ·have:=ymv F;omega
 ·have:=Tt A;omega
 ·have:=Tt A;have:=Tt B;simp only[gE,j2];omega
 ·rename_i k ks s b
  have c:=yan 6 k s;have:T.length<=1:=by subst_vars;simp at h;rcases h.2.2.2.2.2.1 with rfl|rfl<;>simp
  exact yf4
 ·simp
 ·rename_i k ks s b
  have c:=yan 7 k s;have:T.length<=1:=by subst_vars;simp at h;rw[h.2.2.2.2.2.1];simp
  exact yf4
 ·simp
 ·rename_i k m ks s r b
  have c:=yan (eT T) k s;have hq:=yan (eT T+1) m r;have:T.length<=2:=by subst_vars;simp at h;exact yld T h.2.2.2.2.2.1
  exact yf4
 ·simp
 ·rename_i q o n l j i g e f
  have hj:=ygM L a
  have:T.length<=40:=by
   simp only[q,o,n,l,j,i,g,f,e,pI] at h;by_cases d:K=10
   ·rw[bT d] at h;simp at h;exact yiM T h.2.2.2.2.2.1
   ·rw[bv d] at h;simp at h
  simp only[gE,j2,rp];omega
mutual
def yd5 (D L:UInt8): ∀ (t:Tr),hG t=true->(text D L t).length +3<=4006*num t
 | .mk K X T I F A B a,h=>by rw[hG,fs] at h;have c:=ynJ D L _ (GF D L a) h.1;have b:=yi5 D L a h.2;rw[text,num];omega
def yi5 (D L:UInt8): ∀ (ks:List Tr),jz ks=true->((GF D L ks).map fun s=>s.length+3).sum +0<=4006*nums ks
 | [],_=>by simp[GF]
 |k::ks,h=>by rw[jz,fs] at h;have b:=yd5 D L k h.1;have a:=yi5 D L ks h.2;rw[GF,nums];simp only[ya,ycA];omega
end
end Fx

namespace Lc
structure Loc where
 name:Dc.Bs
 dec:Dc.Bs
 grp:Dc.Bs
 list:Dc.Bs
 minus:Dc.Bs
 cur:Dc.Bs
 first:Bool
 space:Bool
 two:Bool
def Loc.second (l:Loc):Nat:=if l.two then 2 else 3
def ch:Loc:=⟨[99,104],[46],[226,128,153],[59],[45],[67,72,70],true,true,false⟩
def de:Loc:=⟨[100,101],[44],[46],[59],[45],[226,130,172],false,true,false⟩
def en:Loc:=⟨[101,110],[46],[44],[44],[45],[36],true,false,false⟩
def fr:Loc:=⟨[102,114],[44],[226,128,175],[59],[45],[226,130,172],false,true,false⟩
def hi:Loc:=⟨[104,105],[46],[44],[44],[45],[226,130,185],true,false,true⟩
def sv:Loc:=⟨[115,118],[44],[194,160],[59],[226,136,146],[107,114],false,true,false⟩
def six:List Loc:=[ch,de,en,fr,hi,sv]
end Lc

def tx (l:List UInt8):Value:= .string ⟨l.toArray⟩
def Vars (w:World):Prop:=0<w.heap.size/\1<w.heap.size/\ ∀ i l,Lc.six[i]? =some l->w.cell? ⟨0,i,none⟩=some (tx l.name)/\
 ∀ j s,[l.dec,l.grp,l.list,l.minus,l.cur][j]? =some s->w.cell? ⟨1,i*5+j,none⟩=some (tx s)
def Vars.on {w a:World} (h:Vars w) (hb:Below w.heap.size w a):Vars a:=by obtain⟨d,c,b⟩:=h;exact⟨eR d hb.size,eR c hb.size,fun i l hl=>⟨(hb.cell (p:=⟨_,i,none⟩) d).trans (b i l hl).1,fun j s e=>(hb.cell (p:=⟨_,i*5+j,none⟩) c).trans ((b i l hl).2 j s e)⟩⟩

section
structure Grown (ops:Array Oper) (a0:Act) (w0:World) (Φ:Nat->World->Value->Prop) (listed:Array Bool) (a:Act) (w:World):Prop where
 size:a.tmps.size=a0.tmps.size
 defs:a.defers=a0.defers
 off: ∀ k,(∀ (i:Nat) (o:Oper),ops[i]? =some o->o.dst≠some k)->a.tmps[k]? =a0.tmps[k]?
 below:Below w0.heap.size w0 w
 has: ∀ (i:Nat) (o:Oper) (d:Nat),ops[i]? =some o->listed.getD i false=true->o.dst=some d->Φ d w (a.tmps.getD d undef)
def ybI (md:Region.Mode) (ops:Array Oper) (n:Nat):Bool:=
 (List.range ops.size).all fun i=>match ops[i]? with
  |none=>false
  |some o=>o.guard.isNone&&(match o.dst with|none=>false|some d=>decide (d<n))&&(o.after.toList.all fun e=>!Region.binds md e || decide (e.on<i))
def yhu {md:Region.Mode} {ops:Array Oper} {n:Nat} (h:ybI md ops n=true) {i:Nat} {o:Oper} (hi:ops[i]? =some o):o.guard=none/\(∃ d,o.dst=some d/\d<n)/\ ∀ e ∈ o.after,Region.binds md e=true->e.on<i:=by
 unfold ybI at h;have j:i<ops.size:=(yX.1 hi).1;have b:=na.1 h i (List.mem_range.2 j);rw[hi] at b;simp only[fs,Option.isNone_iff_eq_none,na] at b;obtain⟨⟨g,a⟩,f⟩:=b;refine⟨g,?_,fun e c hb=>?_⟩
 ·cases hd:o.dst with
  |none=>rw[hd] at a;cases a
  |some d=>rw[hd] at a;exact⟨d,rfl,by simpa using a⟩
 ·have:=f e (Array.mem_toList_iff.2 c);rw[hb] at this;simpa using this
section
variable {P:Program} {md:Region.Mode} {ops:Array Oper} {Q:Exit->Act->World->Prop} {a0:Act} {w0:World} {Φ:Nat->World->Value->Prop}
def Grown.step {listed:Array Bool} {a:Act} {w w':World} {i:Nat} {o:Oper} {v:Value} (c: ∀ d w w' v,Φ d w v->Below w.heap.size w w'->Φ d w' v) (h:Grown ops a0 w0 Φ listed a w) (hi:ops[i]? =some o) {d:Nat} (hd:o.dst=some d) (hl:d<a0.tmps.size)
 (hb:Below w.heap.size w w') (hv:Φ d w' v):Grown ops a0 w0 Φ (listed.setIfInBounds i true) (a.put o.dst v) w':=by
 rw[hd];have n:d<a.tmps.size:=by rw[h.size];exact hl
 refine⟨?_,h.defs,fun k g=>?_,h.below.trans (hb.mono h.below.size),fun j p b hj m f=>?_⟩
 ·show(a.tmps.setIfInBounds d v).size =_;rw[yfK];exact h.size
 ·show(a.tmps.setIfInBounds d v)[k]? =_;have q:d≠k:=fun e=>g i o hi (by rw[hd,e]);rw[ydh q];exact h.off k g
 ·show Φ b w' ((a.tmps.setIfInBounds d v).getD b undef);by_cases e:d=b
  ·subst e;have:(a.tmps.setIfInBounds d v).getD d undef=v:=by simp[yW,Array.getElem?_setIfInBounds,n]
   rw[this];exact hv
  ·have:(a.tmps.setIfInBounds d v).getD b undef=a.tmps.getD b undef:=by
    rw[yW,yW,ydh e]
   rw[this];refine c _ _ _ _ (h.has j p b hj ?_ f) hb;by_cases l:i=j
   ·subst l;rw[hi] at hj;cases hj;rw[hd] at f;cases f;exact absurd rfl e
   ·rw[getD_set_ne false l] at m;exact m
def ysQ (l:Array Bool) (i:Nat) (hi:i<l.size) (h:l.getD i true=false):(l.setIfInBounds i true).toList.count false+1=l.toList.count false:=by
 have hg:l.toList[i]'Ig=false:=by simp[yW,hi] at h;simpa using h
 rw[Array.toList_setIfInBounds,List.count_set Ig];have a:0<l.toList.count false:=List.count_pos_iff.2 (by rw[<-hg];exact pK _);rw[show(l.toList[i]'Ig==false)=true by rw[hg];rfl];rw[bT rfl,bv bL];omega
def ynj (hg:ybI md ops a0.tmps.size=true) (j: ∀ d w w' v,Φ d w v->Below w.heap.size w w'->Φ d w' v)
 (x: ∀ (i:Nat) (o:Oper) (listed:Array Bool) (a:Act) (w:World),ops[i]? =some o->Grown ops a0 w0 Φ listed a w->(∀ e ∈ o.after,Region.binds md e=true->listed.getD e.on false=true)->
  Oper.wp P o a w (fun b w'=> ∃ v,b=a.put o.dst v/\Below w.heap.size w w'/\ ∀ d,o.dst=some d->Φ d w' v) Q)
 (y: ∀ (a:Act) (w:World),Grown ops a0 w0 Φ (Array.replicate ops.size true) a w->Q .normal a w):
 ∀ (fuel:Nat) (listed:Array Bool) (a:Act) (w:World),listed.size=ops.size->listed.toList.count false<=fuel->Grown ops a0 w0 Φ listed a w->wpAny P md ops Q fuel listed a w:=by
 have r: ∀ (listed:Array Bool) (a:Act) (w:World),listed.size=ops.size->Grown ops a0 w0 Φ listed a w->Region.ready md ops listed=[]->Q .normal a w:=by
  intro listed a w c h f
  have t: ∀ (n i:Nat),i<n->i<ops.size->listed.getD i true=true:=by
   intro n
   induction n with
   |zero=>intro i hi;omega
   |succ n g=>
    intro i hi vG
    cases k:listed.getD i true with
    |true=>rfl
    |false=>
     exfalso
     have s:i ∈ Region.ready md ops listed:=by
      unfold Region.ready;refine List.mem_filter.2 ⟨List.mem_range.2 vG,?_⟩;rw[k,ygg vG];simp only[yd,Option.getD_some,Bool.not_false,gA];rw[yfv];intro e u
      cases hb:Region.binds md e with
      |false=>simp
      |true=>
       have C:=(yhu hg (ygg vG)).2.2 e u hb
       have q:=g e.on aG aG
       have l:e.on<listed.size:=aG
       simp[yW,l] at q ⊢
       exact q
     rw[f] at s;cases s
  refine y a w ⟨h.size,h.defs,h.off,h.below,fun i o d hi hl hd=>h.has i o d hi ?_ hd⟩;have vG:i<ops.size:=(yX.1 hi).1;have:=t (i+1) i aG vG;have l:i<listed.size:=aG;simp[yW,l] at this ⊢;exact this
 have B: ∀ (listed:Array Bool) (a:Act) (w:World) (i:Nat),Grown ops a0 w0 Φ listed a w->i ∈ Region.ready md ops listed->
  wpOp P ops Q i (fun b w'=>Grown ops a0 w0 Φ (listed.setIfInBounds i true) b w') a w:=by
  intro listed a w i h hi;obtain⟨_,o,ho,z⟩:=mem_ready.1 hi;have m:=yhu hg ho;obtain⟨d,hd,A⟩:=m.2.1;unfold wpOp;rw[ho];simp only;rw[bT (by unfold Region.wanted;rw[m.1])];refine Or.inl (Oper.wp_mono (fun b w' ⟨v,e,hb,hv⟩=>?_) (x i o listed a w ho h z));rw[e];exact h.step j ho hd A hb (hv d hd)
 intro fuel
 induction fuel with
 |zero=>
  intro listed a w c k h
  have f:Region.ready md ops listed=[]:=by refine List.eq_nil_iff_forall_not_mem.2 fun i hi=>?_;exact yl6
  exact⟨f,r listed a w c h f⟩
 |succ fuel g=>
  intro listed a w c k h
  refine⟨r listed a w c h,fun i hi=>wpOp_mono (fun b w' h'=>g _ b w' (by rw[yfK];exact c) ?_ h') (B listed a w i h hi)⟩
  exact yl6
def ysi {id:Nat} {a:Act} {w:World} {Φ:Nat->World->Value->Prop} (hm:P.follows .mixedOrders =true) (hg:ybI .any ops a.tmps.size=true) (c: ∀ d w w' v,Φ d w v->Below w.heap.size w w'->Φ d w' v)
 (j: ∀ (i:Nat) (o:Oper) (listed:Array Bool) (b:Act) (w':World),ops[i]? =some o->Grown ops a w.drew Φ listed b w'->(∀ e ∈ o.after,Region.binds .any e=true->listed.getD e.on false=true)->
  Oper.wp P o b w' (fun l f=> ∃ v,l=b.put o.dst v/\Below w'.heap.size w' f/\ ∀ d,o.dst=some d->Φ d f v) Q)
 (k: ∀ (b:Act) (w':World),Grown ops a w.drew Φ (Array.replicate ops.size true) b w'->Q .normal b w'):(Code.region id ops true).wp P Q a w:=by
 refine wp_region_any hm (ynj (w0:=w.drew) (Φ:=Φ) hg c j k ops.size (Array.replicate ops.size false) a w.drew cn ?_ ⟨rfl,rfl,fun _ _=>rfl,eN,fun i o d hi hl _=>?_⟩)
 ·exact dE List.count_le_length cn
 ·exfalso;have g:i<ops.size:=(yX.1 hi).1;simp[yW,g] at hl
end
def ys3 (D:List Nat): ∀ (t t':Array Value),t'.size=t.size->(∀ k,k ∉ D->t'[k]? =t[k]?)->t'=D.foldl (fun s k=>s.setIfInBounds k (t'.getD k undef)) t:=by
 induction D with
 |nil=>intro t t' a h;exact Array.ext_getElem? fun k=>h k cn
 |cons d D b=>
  intro t t' a h
  rw[uU]
  refine b _ _ (by rw[yfK];exact a) fun k c=>?_
  by_cases e:d=k
  ·subst e
   rw[Array.getElem?_setIfInBounds_self]
   by_cases hl:d<t.size
   ·rw[bT hl,yW,ygg aG];rfl
   ·rw[bv hl,Array.getElem?_eq_none aG]
  ·rw[ydh e]
   exact h k (by simp[c,Pt e])
end

namespace Fx
def numN (x:Nat):Tr:= .mk 1 x [] false 0 Ce.zero Ce.zero []
def ex0:Tr:=nod 8 [43] [numN 4607182418800017408,nod 8 [42] [numN 4611686018427387904,numN 4613937818241073152]]
def ymM:parse 46 44 [49,43,50,42,51]=(some ex0,0,0):=cI
def ex1:Tr:=nod 8 [94] [nod 7 [45] [numN 4611686018427387904],numN 4611686018427387904]
def yoL:parse 46 44 [45,50,94,50]=(some ex1,0,0):=cI
def ex2:Tr:=nod 9 [37] [.mk 6 0 [] false 0 ⟨0,0,false,false⟩ ⟨1,1,true,true⟩ []]
def ys1:parse 46 44 [97,49,58,36,98,36,50,37]=(some ex2,0,0):=cI
def ex3:Tr:=nod 10 [83,85,77] [numN 4607182418800017408,numN 4611686018427387904]
def yvN:parse 46 44 [115,117,109,40,49,44,32,50,32,41]=(some ex3,0,0):=cI
def ex4:Tr:=nod 8 [38] [.mk 2 0 [97,34,98] false 0 Ce.zero Ce.zero [],.mk 3 0 [] true 0 Ce.zero Ce.zero []]
def yrQ:parse 46 44 [34,97,34,34,98,34,38,84,82,85,69]=(some ex4,0,0):=cI
def ex5:Tr:= .mk 4 0 [] false 7 Ce.zero Ce.zero []
def yvW:parse 46 44 [35,78,47,65]=(some ex5,0,0):=cI
def ex6:Tr:=nod 8 [61] [nod 8 [60,62] [numN 4607182418800017408,numN 4611686018427387904],numN 4613937818241073152]
def ynm:parse 46 44 [49,60,62,50,61,51]=(some ex6,0,0):=cI
def ex7:Tr:=nod 10 [65,49] [numN 4611686018427387904]
def yvz:parse 46 44 [65,49,40,50,41]=(some ex7,0,0):=cI
def yrC:parse 46 44 []=(none,13,0):=cI
def ywb:parse 46 44 [49,43]=(none,13,2):=cI
def ynk:parse 46 44 [49,32,50]=(none,13,2):=cI
def ysJ:parse 46 44 [40,49]=(none,13,2):=cI
def yni:parse 46 44 [34,97]=(none,13,0):=cI
def ysV:parse 46 44 [35,88]=(none,13,0):=cI
def ynd:parse 46 44 [49,101]=(none,13,1):=cI
def yqR:parse 46 44 [102,111,111]=(none,8,0):=cI
def yos:parse 46 44 [90,90,49]=(none,14,0):=cI
def yuP:parse 46 44 [115,117,109,32,40,49,41]=(none,8,0):=cI
def ys0:parse 46 44 [49,101,57,57,57]=(none,2,0):=cI
def ypg:parse 46 44 [97,46,49,46]=(none,8,0):=cI
def pa:Tr:=nod 10 [83,85,77] [numN 4602678819172646912,.mk 6 0 [] false 0 ⟨0,0,false,false⟩ ⟨1,1,false,false⟩ []]
def yup:print 44 59 pa=[83,85,77,40,48,44,53,59,65,49,58,66,50,41]:=cI
def pb:Tr:=nod 7 [45] [nod 8 [94] [numN 4611686018427387904,numN 4611686018427387904]]
def yrh:print 46 44 pb=[45,40,50,94,50,41]:=cI
def pc:Tr:=nod 8 [94] [nod 7 [45] [numN 4611686018427387904],numN 4611686018427387904]
def ypU:print 46 44 pc=[45,50,94,50]:=cI
def pd:Tr:=nod 8 [45] [nod 8 [45] [numN 4607182418800017408,numN 4611686018427387904],numN 4613937818241073152]
def ypV:print 46 44 pd=[49,45,50,45,51]:=cI
def pe:Tr:=nod 8 [45] [numN 4607182418800017408,nod 8 [45] [numN 4611686018427387904,numN 4613937818241073152]]
def ynn:print 46 44 pe=[49,45,40,50,45,51,41]:=cI
end Fx

def yoG (k:Nat) (n d g c m f:ByteArray) (w:World) (L:k<6) (M:0<w.heap.size) (a:1<w.heap.size)
 (o: ∀ j,j<k-> ∃ s:ByteArray,w.cell? ⟨0,j,none⟩=some (.string s)/\(s.toList==n.toList)=false)
 (hn:w.cell? ⟨0,k,none⟩=some (.string n))
 (D:w.cell? ⟨1,k*5,none⟩=some (.string d)) (C:w.cell? ⟨1,k*5+1,none⟩=some (.string g)) (A:w.cell? ⟨1,k*5+2,none⟩=some (.string c)) (z:w.cell? ⟨1,k*5+3,none⟩=some (.string m)) (y:w.cell? ⟨1,k*5+4,none⟩=some (.string f)):
 Calls prog 23 #[.string n] w (fun e w'=> ∃ (b q:Nat) (E sp:Bool),e= .returned (.tuple #[.agg #[.string n,.string d,.string g,.string c,.string m,.string ⟨#[37]⟩,.string f,.bool E,.bool sp,.slice (some ⟨b,0,none⟩) q q],.int .i64 0])/\Below w.heap.size w w'):=by
 obtain⟨G,l⟩: ∃ x,x=(n.toList==[99,104]):=⟨_,rfl⟩;obtain⟨b2,hb2⟩: ∃ x,x=(n.toList==[104,105]):=⟨_,rfl⟩;obtain⟨F,r⟩: ∃ x,x=(n.toList==[101,110]):=⟨_,rfl⟩;have c1:=l.symm;have c2:=hb2.symm;have c3:=r.symm;have I:=aL o;clear l hb2 r o;go_enter func23,ntmps23
 go_wp2_with fail
 go_loop [4,6,8] (fun _ i _=> ∃ j:Nat,j<=k/\i= .int .i64 j) (fun _ i _=>6-(intOf i).toNat)
 case atStart=>exact⟨0,by omega,rfl⟩
 case round=>
  obtain⟨j,hj,rfl⟩:=hrel;have u:(j:Int)<6:=aG;have J:(0:Int)<=(j:Int):=aG;rcases Nat.lt_or_eq_of_le hj with H|rfl
  ·obtain⟨s,K,hx⟩:=I.out j H;have t:(s.toList != n.toList)=true:=by simp only[bne,hx,Bool.not_false]
   go_wp2_with fail
   go_round
   case rel=>exact⟨j+1,by omega,by rfl⟩
   case measure=>simp[intOf];omega
  ·have hx:(n.toList==n.toList)=true:=cn;have t:(n.toList != n.toList)=false:=cn;go_wp2_with fail
   go_region_held3 (fun w'=>w'.cell? ⟨1,j*5,none⟩=some (.string d)/\w'.cell? ⟨1,j*5+1,none⟩=some (.string g)/\w'.cell? ⟨1,j*5+2,none⟩=some (.string c)/\w'.cell? ⟨1,j*5+3,none⟩=some (.string m)/\w'.cell? ⟨1,j*5+4,none⟩=some (.string f)) (exact⟨(oL (B:=w.heap.size) (w:=w) (p:=⟨1,j*5,none⟩) dt a).trans D,(oL (B:=w.heap.size) (w:=w) (p:=⟨1,j*5+1,none⟩) dt a).trans C,(oL (B:=w.heap.size) (w:=w) (p:=⟨1,j*5+2,none⟩) dt a).trans A,(oL (B:=w.heap.size) (w:=w) (p:=⟨1,j*5+3,none⟩) dt a).trans z,(oL (B:=w.heap.size) (w:=w) (p:=⟨1,j*5+4,none⟩) dt a).trans y⟩) (fail)
   all_goals(cases G;cases b2;cases F)
   all_goals go_wp2
   all_goals exact eB (v:= .tuple #[.agg #[.string n,.string d,.string g,.string c,.string m,.string ⟨#[37]⟩,.string f,.bool _,.bool _,.slice (some ⟨_,0,none⟩) _ _],.int .i64 0]) (by simp[results,results23,go_sem];exact⟨rfl,rfl,rfl,rfl⟩) rfl ⟨_,_,_,_,rfl,by(repeat(first|exact eN|assumption|refine vh ?_ mY _|refine vc ?_ mY _|refine vr ?_|refine oY ?_ _))⟩
def ye5 {i:Nat} {l:Lc.Loc} (hl:Lc.six[i]? =some l) {w:World} (hv:Vars w):
 Calls prog 23 #[tx l.name] w (fun e w'=> ∃ (b q:Nat) (m sp:Bool),e= .returned (.tuple #[.agg #[tx l.name,tx l.dec,tx l.grp,tx l.list,tx l.minus,.string ⟨#[37]⟩,tx l.cur,.bool m,.bool sp,.slice (some ⟨b,0,none⟩) q q],.int .i64 0])/\Below w.heap.size w w'):=by
 obtain⟨k,g,h⟩:=hv;obtain⟨hn,c⟩:=h i l hl;have hi:i<6:=(o6.1 hl).1;refine yoG i _ _ _ _ _ _ w hi k g (fun j hj=>?_) hn (c 0 _ rfl) (c 1 _ rfl) (c 2 _ rfl) (c 3 _ rfl) (c 4 _ rfl);have hm:Lc.six[j]? =some (Lc.six[j]'(xH hj hi)):=n9 _;refine⟨_,(h j _ hm).1,?_⟩
 have: ∀ a b:Nat,∀ x y,Lc.six[a]? =some x->Lc.six[b]? =some y->a<b->((⟨x.name.toArray⟩:ByteArray).toList ==(⟨y.name.toArray⟩:ByteArray).toList)=false:=by
  intro a b x y hx d f;have hb:b<6:=(o6.1 d).1
  rcases(show b=1∨b=2∨b=3∨b=4∨b=5 by omega) with rfl|rfl|rfl|rfl|rfl<;>
  rcases(show a=0∨a=1∨a=2∨a=3∨a=4 by omega) with rfl|rfl|rfl|rfl|rfl<;>
  first
   |omega
   |(cases hx;cases d;decide +kernel)
 exact this j i _ _ hm hl hj

def Af (c:Int):Int:=(if c<0 then -(c+1) else c) % 6
def yqD (c:Int):0<=Af c/\Af c<6:=by unfold Af;omega

def yr7 (c:Int) (w:World) (d: -9223372036854775808<=c/\c<=9223372036854775807):Calls prog 35 #[.int .i64 c,.int .i64 6] w (Ret0 (.int .i64 (Af c)) w):=by
 obtain⟨r,a⟩:=bx (Af c);rw[<-a];unfold Af at a;obtain⟨f,g⟩:=d;by_cases h:c<0
 ·rw[bT h] at a;have e:0<= -(c+1):=aG;have b:=aL a;clear a;go_enter func35,ntmps35
  go_wp2
  go_ret
  exact Ret0.of (dZ (Value.int .i64) (by rw[b.out,<-Int.neg_tmod,Int.tmod_eq_emod_of_nonneg aG]))
 ·rw[bv h] at a;have e:0<=c:=aG;have b:=aL a;clear a;go_enter func35,ntmps35
  go_wp2
  go_ret
  exact Ret0.of (dZ (Value.int .i64) b.out.symm)
end Go.Proofs.YtilbpmimoijfhaaGreatDoor
