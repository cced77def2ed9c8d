/- Formulas: shown, its head: the two Readers. -/
import Derived.Test.YtilbpmimoijfhaaGreatDoorY46
namespace Go.Proofs.YtilbpmimoijfhaaGreatDoor
set_option linter.all false
set_option maxRecDepth 100000
set_option maxHeartbeats 16000000
open Go.RowKit Go.Proofs.Tryz
section
open Fx (Tr)
attribute [local go_sem ↓] We Wy qh qn xy xc ykQ
def enL (a sp:Bool) (b q:Nat):List Value:=[.string ⟨#[101,110]⟩,.string ⟨#[46]⟩,.string ⟨#[44]⟩,.string ⟨#[44]⟩,.string ⟨#[45]⟩,.string ⟨#[37]⟩,.string ⟨#[36]⟩,.bool a,.bool sp,.slice (some ⟨b,0,none⟩) q q]
def deL (a sp:Bool) (b q:Nat):List Value:=[.string ⟨#[100,101]⟩,.string ⟨#[44]⟩,.string ⟨#[46]⟩,.string ⟨#[59]⟩,.string ⟨#[45]⟩,.string ⟨#[37]⟩,.string ⟨#[226,130,172]⟩,.bool a,.bool sp,.slice (some ⟨b,0,none⟩) q q]
def yu1 (w:World) (hv:Vars w):Calls prog 23 #[.string ⟨#[101,110]⟩] w (fun e w'=> ∃ (b q:Nat) (a sp:Bool),e= .returned (.tuple #[.agg #[.string ⟨#[101,110]⟩,.string ⟨#[46]⟩,.string ⟨#[44]⟩,.string ⟨#[44]⟩,.string ⟨#[45]⟩,.string ⟨#[37]⟩,.string ⟨#[36]⟩,.bool a,.bool sp,.slice (some ⟨b,0,none⟩) q q],.int .i64 0])/\Below w.heap.size w w'):=ye5 (i:=2) (l:=Lc.en) rfl hv
def ywt (w:World) (hv:Vars w):Calls prog 23 #[.string ⟨#[100,101]⟩] w (fun e w'=> ∃ (b q:Nat) (a sp:Bool),e= .returned (.tuple #[.agg #[.string ⟨#[100,101]⟩,.string ⟨#[44]⟩,.string ⟨#[46]⟩,.string ⟨#[59]⟩,.string ⟨#[45]⟩,.string ⟨#[37]⟩,.string ⟨#[226,130,172]⟩,.bool a,.bool sp,.slice (some ⟨b,0,none⟩) q q],.int .i64 0])/\Below w.heap.size w w'):=ye5 (i:=1) (l:=Lc.de) rfl hv
def yho (B:Nat) (us:List Value): ∀ (o:Nat) (w:World),Onl B w (w.setCells B o us):=by
 induction us with
 |nil=>intro o w;exact Onl.refl _ _
 |cons u us a=>intro o w;exact((Onl.refl B w).setCell o u).trans (a (o+1) _)
def yh3 {w:World} {B:Nat} {cs ds:List Value} (h:Mem w B cs 36) (hl:cs.length=10) (hd:ds.length=10) (a: ∀ v ∈ ds,v.oneCell'=true):
 ∃ X:World,(MR (.pointer (some ⟨B,0,none⟩)) (.agg ds.toArray)).run prog w= .ok () X/\(Wx (.pointer (some ⟨B,0,none⟩))).run prog X= .ok (.agg ds.toArray) X/\Mem X B ds 36/\Onl B w X/\X.heap.size=w.heap.size:=by
 refine⟨_,WG h hl hd a,zS (h.setCells (by rw[hl,hd])) hd,h.setCells (by rw[hl,hd]),yho _ _ _ _,yJ _ _ _ _⟩
def vt:Tr:= .mk 6 0 [] false 0 ⟨0,0,false,false⟩ ⟨1,1,true,true⟩ []
def yv3 (w:World): ∃ Z:World,(ve (.pointer (some ⟨w.heap.size,0,none⟩)) (.agg #[.int .i64 6,.int .u64 0,.string ⟨#[]⟩,.bool false,.int .i64 0,.int .i64 0,.int .i64 0,.bool false,.bool false,.int .i64 1,.int .i64 1,.bool true,.bool true,.slice none 0 0])).run prog
 (w.alloc (Obj.cells #[.int .i64 0,.int .u64 0,.string ⟨#[]⟩,.bool false,.int .i64 0,.int .i64 0,.int .i64 0,.bool false,.bool false,.int .i64 0,.int .i64 0,.bool false,.bool false,.slice none 0 0] 27))= .ok () Z/\
 Nd Z w.heap.size (trv vt (.slice none 0 0))/\Below w.heap.size w Z/\Z.heap.size=w.heap.size+1:=by
 have a:IsN (trv vt (.slice none 0 0)) (trc vt (.slice none 0 0)):=IsN.of _ _ _ _;refine⟨_,jP (Nd.zero w) a,(Nd.zero w).put a,zg cm (ek),?_⟩;rw[yI];simp
def tab9:Nat->Tr ⊕ List Tr
 |45=> .inl (Fx.numN 4607182418800017408)|46=> .inl (Fx.numN 4611686018427387904)|47=> .inl (Fx.numN 4613937818241073152)
 |48=> .inl (Fx.nod 8 [42] [Fx.numN 4611686018427387904,Fx.numN 4613937818241073152])|49=> .inl Fx.ex0
 |50=> .inl (Fx.numN 4611686018427387904)|51=> .inl (Fx.nod 7 [45] [Fx.numN 4611686018427387904])|52=> .inl (Fx.numN 4611686018427387904)|53=> .inl Fx.ex1
 |54=> .inl vt|55=> .inr [vt]|56=> .inl Fx.ex2
 |57=> .inl (Fx.numN 4607182418800017408)|58=> .inl (Fx.numN 4611686018427387904)|59=> .inr [Fx.numN 4607182418800017408,Fx.numN 4611686018427387904]|60=> .inl Fx.ex3
 |61=> .inl (.mk 2 0 [97,34,98] false 0 Ce.zero Ce.zero [])|62=> .inl (.mk 3 0 [] true 0 Ce.zero Ce.zero [])|63=> .inl Fx.ex4|64=> .inl Fx.ex5
 |65=> .inl (Fx.numN 4607182418800017408)|66=> .inl (Fx.numN 4611686018427387904)|67=> .inl (Fx.nod 8 [60,62] [Fx.numN 4607182418800017408,Fx.numN 4611686018427387904])|68=> .inl (Fx.numN 4613937818241073152)|69=> .inl Fx.ex6
 |70=> .inl (Fx.numN 4611686018427387904)|71=> .inr [Fx.numN 4611686018427387904]|72=> .inl Fx.ex7
 | _=> .inr [Fx.ex0,Fx.ex1,Fx.ex2,Fx.ex3,Fx.ex4,Fx.ex5,Fx.ex6,Fx.ex7]
def exs:List Tr:=[Fx.ex0,Fx.ex1,Fx.ex2,Fx.ex3,Fx.ex4,Fx.ex5,Fx.ex6,Fx.ex7]
def txtB:List ByteArray:=[⟨#[49,43,50,42,51]⟩,⟨#[45,50,94,50]⟩,⟨#[97,49,58,36,98,36,50,37]⟩,⟨#[115,117,109,40,49,44,32,50,32,41]⟩,⟨#[34,97,34,34,98,34,38,84,82,85,69]⟩,⟨#[35,78,47,65]⟩,⟨#[49,60,62,50,61,51]⟩,⟨#[65,49,40,50,41]⟩]
def badB:List ByteArray:=[⟨#[]⟩,⟨#[49,43]⟩,⟨#[49,32,50]⟩,⟨#[40,49]⟩,⟨#[34,97]⟩,⟨#[35,88]⟩,⟨#[49,101]⟩,⟨#[102,111,111]⟩,⟨#[90,90,49]⟩,⟨#[115,117,109,32,40,49,41]⟩,⟨#[49,101,57,57,57]⟩,⟨#[97,46,49,46]⟩]
def badE:List Int:=[13,13,13,13,13,13,13,8,14,8,2,8]
def badP:List Int:=[0,2,2,2,0,0,1,0,0,0,0,0]
def yvk {k:Nat} (h:k<8):(txtB.map Value.string)[k]? =some (.string (txtB.getD k ⟨#[]⟩)):=by exact yjV
def ymF {k:Nat} (h:k<8):exs[k]'h=exs.getD k vt:=by exact yjV
def yt5 {k:Nat} (h:k<8):Fx.parse 46 44 (txtB.getD k ⟨#[]⟩).data.toList =(some (exs.getD k vt),0,0):=by
 rcases(show k=0∨k=1∨k=2∨k=3∨k=4∨k=5∨k=6∨k=7 by omega) with rfl|rfl|rfl|rfl|rfl|rfl|rfl|rfl
 ·exact Fx.ymM
 ·exact Fx.yoL
 ·exact Fx.ys1
 ·exact Fx.yvN
 ·exact Fx.yrQ
 ·exact Fx.yvW
 ·exact Fx.ynm
 ·exact Fx.yvz
def ytb {k:Nat} (h:k<8):(txtB.getD k ⟨#[]⟩).size <=1000:=by rcases(show k=0∨k=1∨k=2∨k=3∨k=4∨k=5∨k=6∨k=7 by omega) with rfl|rfl|rfl|rfl|rfl|rfl|rfl|rfl<;>decide
def UD {k:Nat} {P:Nat->Prop} (h:k<12) (m:P 0) (l:P 1) (j:P 2) (i:P 3) (g:P 4) (f:P 5) (e:P 6) (d:P 7) (c:P 8) (b:P 9) (n:P 10) (a:P 11):P k:=by rcases(show k=0∨k=1∨k=2∨k=3∨k=4∨k=5∨k=6∨k=7∨k=8∨k=9∨k=10∨k=11 by omega) with rfl|rfl|rfl|rfl|rfl|rfl|rfl|rfl|rfl|rfl|rfl|rfl<;>assumption
def yrw {k:Nat} (h:k<12):(badB.map Value.string)[k]? =some (.string (badB.getD k ⟨#[]⟩)):=UD (P:=fun k=>(badB.map Value.string)[k]? =some (.string (badB.getD k ⟨#[]⟩))) h rfl rfl rfl rfl rfl rfl rfl rfl rfl rfl rfl rfl
def yvh {k:Nat} (h:k<12):(badE.map (Value.int .i64))[k]? =some (.int .i64 (badE.getD k 0)):=UD (P:=fun k=>(badE.map (Value.int .i64))[k]? =some (.int .i64 (badE.getD k 0))) h rfl rfl rfl rfl rfl rfl rfl rfl rfl rfl rfl rfl
def ynK {k:Nat} (h:k<12):(badP.map (Value.int .i64))[k]? =some (.int .i64 (badP.getD k 0)):=UD (P:=fun k=>(badP.map (Value.int .i64))[k]? =some (.int .i64 (badP.getD k 0))) h rfl rfl rfl rfl rfl rfl rfl rfl rfl rfl rfl rfl
def yui {k:Nat} (h:k<12):(badB.getD k ⟨#[]⟩).size <=1000:=UD (P:=fun k=>(badB.getD k ⟨#[]⟩).size <=1000) h bL bL bL bL bL bL bL bL bL bL bL bL
def yor {k:Nat} (h:k<12):Fx.parse 46 44 (badB.getD k ⟨#[]⟩).data.toList =(none,badE.getD k 0,badP.getD k 0):=
 UD (P:=fun k=>Fx.parse 46 44 (badB.getD k ⟨#[]⟩).data.toList =(none,badE.getD k 0,badP.getD k 0)) h Fx.yrC Fx.ywb Fx.ynk Fx.ysJ Fx.yni Fx.ysV Fx.ynd Fx.yqR Fx.yos Fx.yuP Fx.ys0 Fx.ypg
def yk2:Fx.Lc 46 44:=by constructor<;>decide
def Dd (w:World) {X:Value} {cs:List Value} (h:IsN X cs): ∃ Z:World,(ve (.pointer (some ⟨w.heap.size,0,none⟩)) X).run prog
 (w.alloc (Obj.cells #[.int .i64 0,.int .u64 0,.string ⟨#[]⟩,.bool false,.int .i64 0,.int .i64 0,.int .i64 0,.bool false,.bool false,.int .i64 0,.int .i64 0,.bool false,.bool false,.slice none 0 0] 27))= .ok () Z/\
 Nd Z w.heap.size X/\Below w.heap.size w Z/\Z.heap.size=w.heap.size+1:=by
 refine⟨_,jP (Nd.zero w) h,(Nd.zero w).put h,zg cm (ek),?_⟩;rw[yI];simp
def ycX (x:Nat) (lo:Nat) (w:World):Calls prog 25 #[.int .u64 x] w (fun e w'=> ∃ X,e= .returned X/\TreeV w' lo X (Fx.numN x)/\Below w.heap.size w w'):=
 (yjJ x w).mono fun _ w' ⟨a,hb⟩=>⟨_,a,TreeV.leaf w' lo rfl,hb⟩
def n1v (lo:Nat) (w:World):Calls prog 25 #[.int .u64 4607182418800017408] w (fun e w'=> ∃ X,e= .returned X/\TreeV w' lo X (Fx.numN 4607182418800017408)/\Below w.heap.size w w'):=ycX 4607182418800017408 lo w
def n2v (lo:Nat) (w:World):Calls prog 25 #[.int .u64 4611686018427387904] w (fun e w'=> ∃ X,e= .returned X/\TreeV w' lo X (Fx.numN 4611686018427387904)/\Below w.heap.size w w'):=ycX 4611686018427387904 lo w
def n3v (lo:Nat) (w:World):Calls prog 25 #[.int .u64 4613937818241073152] w (fun e w'=> ∃ X,e= .returned X/\TreeV w' lo X (Fx.numN 4613937818241073152)/\Below w.heap.size w w'):=ycX 4613937818241073152 lo w
def nhv (lo:Nat) (w:World):Calls prog 25 #[.int .u64 4602678819172646912] w (fun e w'=> ∃ X,e= .returned X/\TreeV w' lo X (Fx.numN 4602678819172646912)/\Below w.heap.size w w'):=ycX 4602678819172646912 lo w
def Qs {W0 w:World} {g b v b2 lo:Nat} {D L:UInt8} {X:Value} {t:Tr} (S:St W0 w g b v b2 D L) (c:Bs W0) (hx:TreeV w lo X t) (f:b2<lo) (R:ByteArray) (d:Fx.print D L t=R.data.toList) (hm:Fx.tmax t<=9223372036854775807):
 Calls prog 19 #[.pointer (some ⟨g,0,none⟩),X] w (RetR b2 (.string R) w):=by
 obtain⟨A,h,e⟩:=hx;obtain⟨u,rfl,a⟩:=h.at e;have h:=yk8 t u g b v b2 lo w.heap.size D L w (S.fop c) a cm (.inl f) hm;rw[d] at h;exact h
def yrc {w:World} {lo:Nat} {X Y:Value} {t u:Tr} (hx:TreeV w lo X t) (c:TreeV w lo Y u) (f:lo<=w.heap.size): ∃ W:World,(yaV X Y).run prog w= .ok (.slice (some ⟨w.heap.size,0,none⟩) 2 2) W/\KidsV W lo (.slice (some ⟨w.heap.size,0,none⟩) 2 2) [t,u]/\Below w.heap.size w W/\W.heap.size=w.heap.size+1:=by
 obtain⟨cs,e⟩:=hx.isN;obtain⟨ds,b⟩:=c.isN
 have d:=KidsV.row f (css:=[cs,ds]) (ks:=[t,u]) rfl cn (fun k t' a=>by
  rcases k with _ | _|k
  ·cases a;exact⟨_,_,hx,e,rfl⟩
  ·cases a;exact⟨_,_,c,b,rfl⟩
  ·simp at a)
 rw[show[cs,ds].flatten =cs++ds by simp] at d;exact⟨_,yaY e b w,d,ek,i7 _ _⟩
def yhL (p v:Value):Sem Unit:=Instr.storeAt 24 p v
def yru (p v:Value):Instr.storeAt 24 p v=yhL p v:=rfl
attribute [local go_sem ↓] yru
def yaR:Tr:= .mk 6 0 [] false 0 ⟨0,0,false,false⟩ ⟨1,1,false,false⟩ []
def ymW {w:World} {B:Nat} (h:Nd w B (trv vt (.slice none 0 0))): ∃ Z:World,(yhL (.pointer (some ⟨B,9,none⟩)) (.agg #[.int .i64 1,.int .i64 1,.bool false,.bool false])).run prog w= .ok () Z/\
 Nd Z B (trv yaR (.slice none 0 0))/\Onl B w Z/\Z.heap.size=w.heap.size:=by
 obtain⟨cs,i,m⟩:=h;obtain rfl:=i.cells
 have a:=ybl (P:=prog) w B 9 24 #[.int .i64 1,.int .i64 1,.bool false,.bool false] (fun j hj=>by
  have b:j<4:=hj;refine⟨?_,m.frozen _⟩;rcases(show j=0∨j=1∨j=2∨j=3 by omega) with rfl|rfl|rfl|rfl
  ·rw[m.get 9 rfl];rfl
  ·rw[m.get 10 rfl];rfl
  ·rw[m.get 11 rfl];rfl
  ·rw[m.get 12 rfl];rfl) cI cI
 refine⟨_,a,⟨trc yaR (.slice none 0 0),IsN.of _ _ _ _,?_⟩,yho _ _ _ _,yJ _ _ _ _⟩;exact(((m.set 9 (.int .i64 1)).set 10 (.int .i64 1)).set 11 (.bool false)).set 12 (.bool false)
def yrP (w:World) (hv:Vars w) (hs:Bs w):Calls prog 8 #[] w (RetB (.bool true) w):=by
 obtain⟨HV,g⟩:=dY hv hs;have rC:=aL (fun W=>(Ou 2 W:Calls prog 14 #[.int .i64 2] W (Ret0 (.string ⟨#[35,68,73,86,47,48,33]⟩) W)));have HF9:=aL (fun W=>(Ou 9 W:Calls prog 14 #[.int .i64 9] W (Ret0 (.string ⟨#[]⟩) W)));clear hv hs;go_enter func8,ntmps8
 have Qw:=aL (fun(W:World) (hW:Below w.heap.size w W)=>EvR.of g.out.ev hW.size (hW.block _ g.out.ev.lt));go_upto_region 9 with (first|(go_at_call 23;(with_reducible refine(yu1 _ (HV.out.on dt)).mono ?_);rintro e w1 ⟨b1,q1,f1,s1,rfl,aw⟩;have cH:=aw.size;obtain⟨X1,Ap,Rc,m1,Q5,UO⟩:=yh3 (ds:=enL f1 s1 b1 q1) (Mem.new w1 zk 36) rfl rfl (Cu rfl);have T0:=Q5.below;have wl:Below w.heap.size w X1:=(aw.trans ((ek).mono cH)).trans (T0.mono cH);have LB:=aL m1;simp only[i7] at UO;unfold enL at Ap Rc;unfold zk at Ap;clear m1 T0 Q5)|(go_at_call 18;(with_reducible refine(yfD _ _ _ _ _ _ _ _ _ 46 44 _ (Qw.out _ dt)).mono ?_);rintro e w2 ⟨g2,l,v2,c2,rfl,nw,go,gU,dh,qW,hb2⟩;have eK:=hb2.size;have S2:=aL (St.new qW wl hb2 nw go gU dh);have aP:Below w.heap.size w w2:=wl.trans (hb2.mono wl.size);have JI:=aL (LB.out.on hb2);clear qW)|(go_at_call 23;(with_reducible refine(ywt _ (HV.out.on dt)).mono ?_);rintro e w3 ⟨b3,q3,f3,s3,rfl,aU⟩;have fb:=aU.size;have cL:Below w.heap.size w w3:=aP.trans (aU.mono aP.size);obtain⟨y,wX,Rb,m3,Mb,UN⟩:=yh3 (ds:=deL f3 s3 b3 q3) (JI.out.on aU) rfl rfl (Cu rfl);have wk:Below w.heap.size w y:=cL.trans (Mb.below.mono aG);have Q:=aL ((S2.out.on aU).other g.out aG Mb aG aG aG aG);unfold deL at wX Rb;clear m3 Mb)|(go_at_call 18;(with_reducible refine(yfD _ _ _ _ _ _ _ _ _ 44 59 _ (Qw.out _ dt)).mono ?_);rintro e w4 ⟨g4,r4,v4,c4,rfl,uw,GX,El,Ik,Sp,cD⟩;have uj:=cD.size;have P:=aL (Q.out.on cD);have O:=aL (St.new Sp wk cD uw GX El Ik);have bM:Below w.heap.size w w4:=wk.trans (cD.mono wk.size);obtain⟨Z5,QZ,Q8,kc,QN⟩:=yv3 w4;obtain⟨mU,Ai⟩:=dY Q8 kc;clear Sp Q8 kc))
 obtain⟨n,U⟩: ∃ W,W=Z5.alloc (.cells #[.string ⟨#[49,43,50,42,51]⟩,.string ⟨#[45,50,94,50]⟩,.string ⟨#[97,49,58,36,98,36,50,37]⟩,.string ⟨#[115,117,109,40,49,44,32,50,32,41]⟩,.string ⟨#[34,97,34,34,98,34,38,84,82,85,69]⟩,.string ⟨#[35,78,47,65]⟩,.string ⟨#[49,60,62,50,61,51]⟩,.string ⟨#[65,49,40,50,41]⟩] 9):=⟨_,rfl⟩;have R:Below Z5.heap.size Z5 n:=by rw[U];exact ek
 have z9:n.heap.size=w4.heap.size+2:=by rw[U,i7,QN]
 have ST:Mem n (w4.heap.size+1) [.string ⟨#[49,43,50,42,51]⟩,.string ⟨#[45,50,94,50]⟩,.string ⟨#[97,49,58,36,98,36,50,37]⟩,.string ⟨#[115,117,109,40,49,44,32,50,32,41]⟩,.string ⟨#[34,97,34,34,98,34,38,84,82,85,69]⟩,.string ⟨#[35,78,47,65]⟩,.string ⟨#[49,60,62,50,61,51]⟩,.string ⟨#[65,49,40,50,41]⟩] 9:=by rw[U,<-QN];exact Mem.new _ _ _
 have lg2:=P.out.fw.fo.gl;have lr2:=P.out.fw.fo.rd.lt;have lv2:=P.out.fw.wr.lt;have lc2:=P.out.fw.wr.rd.lt;have lg4:=O.out.fw.fo.gl;have lr4:=O.out.fw.fo.rd.lt;have lv4:=O.out.fw.wr.lt;have lc4:=O.out.fw.wr.rd.lt;have S9:=aL ((P.out.on Ai.out).on R);have T9:=aL ((O.out.on Ai.out).on R);have N9:=aL (mU.out.on R);have X9:=aL ST;have x3:=UN;have s3:w2.heap.size<=y.heap.size:=aG;have q2:g2<y.heap.size/\l<y.heap.size/\v2<y.heap.size/\c2<y.heap.size:=⟨Q.out.fw.fo.gl,Q.out.fw.fo.rd.lt,Q.out.fw.wr.lt,Q.out.fw.wr.rd.lt⟩;have q4:y.heap.size<=g4/\y.heap.size<=r4/\y.heap.size<=v4/\y.heap.size<=c4:=⟨uw,GX,El,Ik⟩;have B9:=aL (((bM.trans (Ai.out.mono bM.size)).trans (R.mono (by have:=bM.size;omega)):Below w.heap.size w n));rw[<-U];clear U R ST QZ mU Ai P O Q S2 wX Rb Ap Rc LB JI aw hb2 aU cD aP cL bM wl wk Qw;have Up:=aL (Phi.on (tab:=tab9) (lo:=n.heap.size));go_cut [7] from 45 to 73 (fun sv wc=>Hid (KidsV wc n.heap.size sv exs)/\Hid (Below n.heap.size n wc))
 case first=>
  refine ysi (Φ:=Phi tab9 n.heap.size) cI cI Up.out ?_ ?_
  ·intro i o listed a' w' hi c d;have f:n.heap.size<=w'.heap.size:=c.below.size
   have DV:(ox (a'.eval (.tmp 5))).run prog w'= .ok (trv vt (.slice none 0 0)) w':=by rw[show a'.eval (.tmp 5)= .pointer (some ⟨w4.heap.size,0,none⟩) from c.at_off 5 cI];exact fx (N9.out.on ((eN.drew).trans c.below))
   have Fb:TreeV w' n.heap.size (trv vt (.slice none 0 0)) vt:=TreeV.leaf _ _ rfl;have WU:i<30:=(yX.1 hi).1;rcases(show i=0∨i=1∨i=2∨i=3∨i=4∨i=5∨i=6∨i=7∨i=8∨i=9∨i=10∨i=11∨i=12∨i=13∨i=14∨i=15∨i=16∨i=17∨i=18∨i=19∨i=20∨i=21∨i=22∨i=23∨i=24∨i=25∨i=26∨i=27∨i=28∨i=29 by omega) with rfl|rfl|rfl|rfl|rfl|rfl|rfl|rfl|rfl|rfl|rfl|rfl|rfl|rfl|rfl|rfl|rfl|rfl|rfl|rfl|rfl|rfl|rfl|rfl|rfl|rfl|rfl|rfl|rfl|rfl
   all_goals(have j:=tJ hi;subst j)
   ·exact yQ rfl rfl rfl f (fun _ _ h=>h)
   ·exact yQ rfl rfl rfl f (fun _ _ h=>h)
   ·exact yQ rfl rfl rfl f (fun _ _ h=>h)
   ·exact PG rfl rfl f (c.has 1 _ 46 rfl (om d 1 cI) rfl) (c.has 2 _ 47 rfl (om d 2 cI) rfl) (fun _ _ h=>h)
   ·exact PG rfl rfl f (c.has 0 _ 45 rfl (om d 0 cI) rfl) (c.has 3 _ 48 rfl (om d 3 cI) rfl) (fun _ _ h=>h)
   ·exact yQ rfl rfl rfl f (fun _ _ h=>h)
   ·exact yta rfl rfl f (c.has 5 _ 50 rfl (om d 5 cI) rfl) (fun _ _ h=>h)
   ·exact yQ rfl rfl rfl f (fun _ _ h=>h)
   ·exact PG rfl rfl f (c.has 6 _ 51 rfl (om d 6 cI) rfl) (c.has 7 _ 52 rfl (om d 7 cI) rfl) (fun _ _ h=>h)
   ·exact yrk rfl rfl DV Fb
   ·exact yi4 rfl rfl f (c.has 9 _ 54 rfl (om d 9 cI) rfl) (fun _ _ h=>h)
   ·exact yfE rfl rfl (c.has 10 _ 55 rfl (om d 10 cI) rfl) (fun _ _ h=>h)
   ·exact yQ rfl rfl rfl f (fun _ _ h=>h)
   ·exact yQ rfl rfl rfl f (fun _ _ h=>h)
   ·exact ysm rfl rfl f (c.has 12 _ 57 rfl (om d 12 cI) rfl) (c.has 13 _ 58 rfl (om d 13 cI) rfl) (fun _ _ h=>h)
   ·exact yfE rfl rfl (c.has 14 _ 59 rfl (om d 14 cI) rfl) (fun _ _ h=>h)
   ·exact ym7 rfl rfl (fun _ _ h=>h)
   ·exact ymq rfl rfl (fun _ _ h=>h)
   ·exact PG rfl rfl f (c.has 16 _ 61 rfl (om d 16 cI) rfl) (c.has 17 _ 62 rfl (om d 17 cI) rfl) (fun _ _ h=>h)
   ·exact yqt rfl rfl (fun _ _ h=>h)
   ·exact yQ rfl rfl rfl f (fun _ _ h=>h)
   ·exact yQ rfl rfl rfl f (fun _ _ h=>h)
   ·exact PG rfl rfl f (c.has 20 _ 65 rfl (om d 20 cI) rfl) (c.has 21 _ 66 rfl (om d 21 cI) rfl) (fun _ _ h=>h)
   ·exact yQ rfl rfl rfl f (fun _ _ h=>h)
   ·exact PG rfl rfl f (c.has 22 _ 67 rfl (om d 22 cI) rfl) (c.has 23 _ 68 rfl (om d 23 cI) rfl) (fun _ _ h=>h)
   ·exact yQ rfl rfl rfl f (fun _ _ h=>h)
   ·exact yi4 rfl rfl f (c.has 25 _ 70 rfl (om d 25 cI) rfl) (fun _ _ h=>h)
   ·exact yfE rfl rfl (c.has 26 _ 71 rfl (om d 26 cI) rfl) (fun _ _ h=>h)
   ·exact yq4 rfl rfl f (c.has 4 _ 49 rfl (om d 4 cI) rfl) (c.has 8 _ 53 rfl (om d 8 cI) rfl) (c.has 11 _ 56 rfl (om d 11 cI) rfl) (c.has 15 _ 60 rfl (om d 15 cI) rfl) (c.has 18 _ 63 rfl (om d 18 cI) rfl) (c.has 19 _ 64 rfl (om d 19 cI) rfl) (c.has 24 _ 69 rfl (om d 24 cI) rfl) (c.has 27 _ 72 rfl (om d 27 cI) rfl) (fun _ _ h=>h)
   ·exact yuE rfl rfl (c.has 28 _ 73 rfl (om d 28 cI) rfl)
  ·intro a' w' c;have hk:KidsV w' n.heap.size (a'.tmps.getD 7 undef) exs:=c.has 29 _ 7 rfl cI rfl;have fe:Below n.heap.size n w':=(eN.drew).trans c.below;obtain⟨HK,rF⟩:=dY hk fe;rw[c.act [7,45,46,47,48,49,50,51,52,53,54,55,56,57,58,59,60,61,62,63,64,65,66,67,68,69,70,71,72,73] cI];clear c hk fe;simp only[List.foldl,List.setIfInBounds_toArray,List.set_cons_zero,List.set_cons_succ];go_wp2_with fail
   go_meet
   case rel=>exact⟨HK,rF⟩
 case rest=>
  obtain⟨HK,I⟩:=hcut;have zc:=I.out.size;have D:=aL (S9.out.on I.out);have Tc:=aL (T9.out.on I.out);have Nc:=aL (N9.out.on I.out);have Xc:=aL (X9.out.on I.out);have Bc:=aL (B9.out.trans (I.out.mono B9.out.size));obtain⟨gw,ow,cw,Rv,ED,lgw,NA,qi⟩:=HK.out.get bL;rw[show exs.length=8 from rfl] at Rv ED;subst Rv;have JO:=aL qi;clear HK I S9 T9 N9 X9 B9 Up qi;go_wp2_with fail
  go_loopw [8] (fun i wr=> ∃ k:Nat,k<=8/\i= .int .i64 k/\Hid (Onl l wc wr)/\Hid (Rdr wr l)) (fun i _=>8-(intOf i).toNat)
  case atStart=>exact⟨0,by omega,rfl,aL (Onl.refl _ _),aL D.out.fw.fo.rd⟩
  case round=>
   obtain⟨k,hk,rfl,q,H⟩:=hrel;have nT:=q.out.size;by_cases s:k<8
   ·have i1:(k:Int)<8:=aG;have y1:=(q.out.cell (k:=w4.heap.size+1) (o:=k) aG aG).trans (Xc.out.get k (yvk s));have C:=D.out.parse g.out q.out H.out;have u:=yf9 yk2 C.fw.fo (txtB.getD k ⟨#[]⟩) (by have:=ytb s;omega);rw[yt5 s] at u;have K:Calls prog 21 #[.pointer (some ⟨g2,0,none⟩),.string (txtB.getD k ⟨#[]⟩)] wr (fun e w'=> ∃ X,e= .returned (.tuple #[X,.int .i64 0,.int .i64 0])/\TreeV w' wr.heap.size X (exs.getD k vt)/\Onl l wr w'/\Rdr w' l):=u;obtain⟨vk,tk,nk⟩:=JO.out k s;rw[ymF s] at tk nk;obtain⟨V,hV⟩:=bx (trv (exs.getD k vt) vk)
    have nf: ∀ (X:Value) (w5 W:World),TreeV w5 wr.heap.size X (exs.getD k vt)->Onl l wc W->Below w5.heap.size w5 W->Calls prog 22 #[X,V] W (RetB (.bool true) W):=fun X w5 W hX hO hW=>by obtain⟨A,pQ,gi⟩:=hX;obtain⟨v1,rfl,pF⟩:=pQ.at gi;rw[hV];exact ygj _ _ v1 vk _ _ _ _ W cm (pF.below hW cm) (tk.onl hO aG cm) hW.size hO.size
    have lF: ∀ W,Onl l wc W->(ox (.pointer (some ⟨gw,ow+k*14,none⟩))).run prog W= .ok V W:=fun W hO=>by rw[hV];exact CE (nk.kept (hO.block gw aG NA))
    obtain⟨T,hT⟩:=bx (txtB.getD k ⟨#[]⟩);rw[<-hT] at y1 K;obtain⟨xY,rs,DV⟩:=iJ K nf lF;clear u K nf lF hV hT tk nk C;go_upto_region 14 with (first|(go_at_call 21;refine cV xY.out ?_;refine SU ?_;intro w5 X5 nB jB GW Ys sN Z Vj F4 bZ zZ;have tQ:=aL nB;have nM:=aL (q.out.trans jB);obtain⟨pW,JA,E⟩:=iJ GW F4 bZ;have kA:=jB.size;clear nB jB GW F4 bZ sN))
    have z:Onl l wc Z:=nM.out.more aG E.out;have IA:Rdr Z l:=pW.out.on E.out;have x1:=fx JA.out;have US:=fx (JA.out.on eN.drew);have x2:=DV.out Z z;have UR:=DV.out Z.drew z.drew1;obtain⟨DP,PE⟩:=dY z IA;clear z IA;have i2:(k:Int)<8:=aG
    go_region_held3 (fun w'=>(ox (.pointer (some ⟨w5.heap.size,0,none⟩))).run prog w'= .ok X5 w'/\(ox (.pointer (some ⟨gw,ow+k*14,none⟩))).run prog w'= .ok V w')
     (first|go_keep|exact⟨k1,k2⟩|exact⟨US,UR⟩)
     (first|(go_at_call 22;(with_reducible refine(rs.out X5 w5 _ tQ.out (by first|exact DP.out|exact DP.out.drew1) (by first|exact E.out|exact E.out.drew)).mono ?_);rintro e w6 ⟨rfl,gO⟩;have nV:Below Z.heap.size Z w6:=(by first|exact gO|exact(eN.drew).trans gO);have Y:=aL (DP.out.more aG nV);have Ly:=aL (PE.out.on nV);have k1:=fx (JA.out.on nV);have k2:=DV.out w6 Y.out))
    all_goals(go_wp2_with fail)
    all_goals(exact⟨⟨k+1,by omega,by go_num,Y,Ly⟩,by simp[intOf];omega⟩)
   ·have uq:k=8:=aG;subst uq;rw[show((8:Nat):Int)=8 from rfl];go_upto_region 21 with (fail)
    obtain⟨N,G⟩: ∃ W,W=((wr.alloc (.cells #[.string ⟨#[]⟩,.string ⟨#[49,43]⟩,.string ⟨#[49,32,50]⟩,.string ⟨#[40,49]⟩,.string ⟨#[34,97]⟩,.string ⟨#[35,88]⟩,.string ⟨#[49,101]⟩,.string ⟨#[102,111,111]⟩,.string ⟨#[90,90,49]⟩,.string ⟨#[115,117,109,32,40,49,41]⟩,.string ⟨#[49,101,57,57,57]⟩,.string ⟨#[97,46,49,46]⟩] 9)).alloc (.cells #[.int .i64 13,.int .i64 13,.int .i64 13,.int .i64 13,.int .i64 13,.int .i64 13,.int .i64 13,.int .i64 8,.int .i64 14,.int .i64 8,.int .i64 2,.int .i64 8] 45)).alloc (.cells #[.int .i64 0,.int .i64 2,.int .i64 2,.int .i64 2,.int .i64 0,.int .i64 0,.int .i64 1,.int .i64 0,.int .i64 0,.int .i64 0,.int .i64 0,.int .i64 0] 3):=⟨_,rfl⟩;have z6:N.heap.size=wr.heap.size+3:=by rw[G];simp
    have b6:Below wr.heap.size wr N:=by rw[G];exact((ek).alloc cn _).alloc pp _
    have e1:Mem N wr.heap.size (badB.map Value.string) 9:=by rw[G];exact((Mem.new wr [.string ⟨#[]⟩,.string ⟨#[49,43]⟩,.string ⟨#[49,32,50]⟩,.string ⟨#[40,49]⟩,.string ⟨#[34,97]⟩,.string ⟨#[35,88]⟩,.string ⟨#[49,101]⟩,.string ⟨#[102,111,111]⟩,.string ⟨#[90,90,49]⟩,.string ⟨#[115,117,109,32,40,49,41]⟩,.string ⟨#[49,101,57,57,57]⟩,.string ⟨#[97,46,49,46]⟩] 9).on (ek)).on (ek)
    have e2:Mem N (wr.heap.size+1) (badE.map (Value.int .i64)) 45:=by rw[G];have h:=Mem.new (wr.alloc (.cells #[.string ⟨#[]⟩,.string ⟨#[49,43]⟩,.string ⟨#[49,32,50]⟩,.string ⟨#[40,49]⟩,.string ⟨#[34,97]⟩,.string ⟨#[35,88]⟩,.string ⟨#[49,101]⟩,.string ⟨#[102,111,111]⟩,.string ⟨#[90,90,49]⟩,.string ⟨#[115,117,109,32,40,49,41]⟩,.string ⟨#[49,101,57,57,57]⟩,.string ⟨#[97,46,49,46]⟩] 9)) [.int .i64 13,.int .i64 13,.int .i64 13,.int .i64 13,.int .i64 13,.int .i64 13,.int .i64 13,.int .i64 8,.int .i64 14,.int .i64 8,.int .i64 2,.int .i64 8] 45;rw[i7] at h;exact h.on (ek)
    have e3:Mem N (wr.heap.size+2) (badP.map (Value.int .i64)) 3:=by rw[G];have h:=Mem.new ((wr.alloc (.cells #[.string ⟨#[]⟩,.string ⟨#[49,43]⟩,.string ⟨#[49,32,50]⟩,.string ⟨#[40,49]⟩,.string ⟨#[34,97]⟩,.string ⟨#[35,88]⟩,.string ⟨#[49,101]⟩,.string ⟨#[102,111,111]⟩,.string ⟨#[90,90,49]⟩,.string ⟨#[115,117,109,32,40,49,41]⟩,.string ⟨#[49,101,57,57,57]⟩,.string ⟨#[97,46,49,46]⟩] 9)).alloc (.cells #[.int .i64 13,.int .i64 13,.int .i64 13,.int .i64 13,.int .i64 13,.int .i64 13,.int .i64 13,.int .i64 8,.int .i64 14,.int .i64 8,.int .i64 2,.int .i64 8] 45)) [.int .i64 0,.int .i64 2,.int .i64 2,.int .i64 2,.int .i64 0,.int .i64 0,.int .i64 1,.int .i64 0,.int .i64 0,.int .i64 0,.int .i64 0,.int .i64 0] 3;rw[i7,i7] at h;exact h
    rw[<-G];have Y:=aL (q.out.more aG b6);have Ly:=aL (H.out.on b6);obtain⟨E1,E2,E3⟩:=iJ e1 e2 e3;obtain⟨M,fe⟩: ∃ b,b=wr.heap.size:=⟨_,rfl⟩;have hbc:wc.heap.size<=M:=aG;rw[<-fe] at E1 E2 E3 z6 ⊢;clear G b6 e1 e2 e3 q H JO fe nT;go_loopw [16] (fun i wq=> ∃ k:Nat,k<=12/\i= .int .i64 k/\Hid (Onl l N wq)/\Hid (Rdr wq l)) (fun i _=>12-(intOf i).toNat)
    case atStart=>exact⟨0,by omega,rfl,aL (Onl.refl _ _),Ly⟩
    case round=>
     obtain⟨k,hk,rfl,q,H⟩:=hrel;have nT:=q.out.size;have J:=aL (Y.out.trans q.out);by_cases s:k<12
     ·have i1:(k:Int)<12:=aG;have y1:=(q.out.cell (k:=M) (o:=k) aG aG).trans (E1.out.get k (yrw s));have C:=D.out.parse g.out J.out H.out;have u:=yf9 yk2 C.fw.fo (badB.getD k ⟨#[]⟩) (by have:=yui s;omega);rw[yor s] at u;have y2:=(q.out.cell (k:=M+1) (o:=k) aG aG).trans (E2.out.get k (yvh s));have y3:=(q.out.cell (k:=M+2) (o:=k) aG aG).trans (E3.out.get k (ynK s));obtain⟨BE,TA⟩: ∃ x,x=badE.getD k 0:=⟨_,rfl⟩;obtain⟨BP,Tz⟩: ∃ x,x=badP.getD k 0:=⟨_,rfl⟩;obtain⟨T,hT⟩:=bx (badB.getD k ⟨#[]⟩);rw[<-TA] at y2 u;rw[<-Tz] at y3 u;rw[<-hT] at y1 u;have K:Calls prog 21 #[.pointer (some ⟨g2,0,none⟩),.string T] wr (fun e w'=> ∃ X,e= .returned (.tuple #[X,.int .i64 BE,.int .i64 BP])/\TreeV w' wr.heap.size X zn/\Onl l wr w'/\Rdr w' l):=u;obtain⟨xY,Y2,Y3⟩:=iJ K y2 y3;clear u K TA Tz hT C y2 y3;go_upto_region 24 with (first|(go_at_call 21;refine cV xY.out ?_;refine SU ?_;intro w5 X5 nB jB GW Ys sN Z Vj F4 bZ zZ;obtain⟨tQ,nM,pW,JA,E⟩:=qF nB jB GW F4 bZ;have kA:=jB.size;clear nB jB GW F4 bZ sN))
      have x0:Z.cell? ⟨w5.heap.size,0,none⟩=some (.int .i64 0):=by obtain⟨A,⟨v,e,_⟩,_⟩:=tQ.out;obtain⟨cs,eE,jC⟩:=JA.out;subst e;obtain rfl:=eE.cells;exact jC.get 0 rfl
      have z:Onl l wr Z:=nM.out.more aG E.out;have x2:=(z.cell (k:=M+1) (o:=k) aG aG).trans Y2.out;have x3:=(z.cell (k:=M+2) (o:=k) aG aG).trans Y3.out;have DP:=aL (q.out.trans z);have PE:=aL (pW.out.on E.out);clear z y1;go_wp2_with fail
      go_roundw
      case rel=>exact⟨k+1,by omega,by go_num,DP,PE⟩
      case measure=>simp[intOf];omega
     ·have Nq:k=12:=aG;subst Nq;go_upto_region 26 with (fail)
      have C:=aL (D.out.parse g.out J.out H.out);have T6:=aL (Tc.out.other g.out D.out.hb J.out aG aG aG aG)
      have Nr:Nd wr w4.heap.size (trv vt (.slice none 0 0)):=by obtain⟨cs,i,m⟩:=Nc.out;exact⟨cs,i,(J.out.block w4.heap.size aG aG).trans m⟩
      obtain⟨B,FZ,py,Ma,Fd⟩:=ymW Nr;have S7:=aL (C.out.other g.out (by have:=D.out.bl.size;omega) Ma aG aG aG aG);have T7:=aL (T6.out.other g.out (by have:=D.out.bl.size;omega) Ma aG aG aG aG);have N7:=aL py;have lZ:w4.heap.size+2<=B.heap.size:=by have:=J.out.size;omega
      clear Nr py Ma C T6 Nc D Tc q H J Y Ly E1 E2 E3 Xc Bc;go_upto_region 27 with (fail)
      obtain⟨V5,Ok⟩: ∃ V,V=trv yaR (.slice none 0 0):=⟨_,rfl⟩;have TG: ∀ W,TreeV W B.heap.size V5 yaR:=fun W=>by rw[Ok];exact TreeV.leaf _ _ rfl
      have n7:=N7.out;rw[<-Ok] at n7;have x5:=fx n7;have QP:=fx (n7.on eN.drew);obtain⟨UE,nO⟩:=dY TG n7;clear TG n7 N7 Ok;obtain⟨a,OH⟩: ∃ L,L=B.heap.size:=⟨_,rfl⟩;have HLO:=aL OH;have VG:a<=B.heap.size:=aG;have u5:c2<a:=aG;have Mh:c4<a:=aG;have VD:w4.heap.size<B.heap.size:=aG;rw[<-OH] at UE;clear OH
      go_region_held3 (fun w'=>(ox (.pointer (some ⟨w4.heap.size,0,none⟩))).run prog w'= .ok V5 w')
       (first|exact Rg|exact Rh|exact k5|exact QP|go_keep)
       (first|(go_at_call 25;refine cV (nhv a _) ?_;rintro e w8 ⟨X8,rfl,Rp,pO⟩;have vP:Below B.heap.size B w8:=(by first|exact pO|exact(eN.drew).trans pO);have J8:=vP.size;obtain⟨W8,VI,uq,TW,zk8⟩:=yrc Rp (UE.out w8) (dE VG J8);have S:Below B.heap.size B W8:=vP.trans (TW.mono J8);have k5:=fx (nO.out.on vP);have Rh:=fx (nO.out.on S);have T8:=aL (T7.out.on S);have S8:=aL (S7.out.on S);have VF:a<=W8.heap.size:=aG;have qe:Calls prog 19 #[.pointer (some ⟨g4,0,none⟩),.agg #[.int .i64 10,.int .u64 0,.string ⟨#[83,85,77]⟩,.bool false,.int .i64 0,.int .i64 0,.int .i64 0,.bool false,.bool false,.int .i64 0,.int .i64 0,.bool false,.bool false,.slice (some ⟨w8.heap.size,0,none⟩) 2 2]] W8 (RetR c4 (.string ⟨#[83,85,77,40,48,44,53,59,65,49,58,66,50,41]⟩) W8):=Qs T8.out g.out (t:=Fx.pa) (uq.tree 10 0 [83,85,77] false 0 Ce.zero Ce.zero) Mh ⟨#[83,85,77,40,48,44,53,59,65,49,58,66,50,41]⟩ Fx.yup bL;have DM:=aL qe;have JD:=aL (nO.out.on S);clear qe uq Rp pO vP TW S)|(go_at_call 19;refine cV DM.out ?_;rintro e w9 ⟨rfl,jN,qS⟩;have S9:=aL (S8.out.other g.out T8.out.hb2 jN aG aG aG aG);have VE:a<=w9.heap.size:=dE VF jN.size;have Rg:(ox (.pointer (some ⟨w4.heap.size,0,none⟩))).run prog w9= .ok V5 w9:=(by obtain⟨cs,hc,m⟩:=JD.out;exact fx ⟨cs,hc,(jN.block w4.heap.size aG m.lt).trans m⟩);clear jN qS))
      all_goals(
       have FY:True:=trivial
       clear x5 QP k5 Rh Rg VI
       go_upto_region 30 with (first|(clear FY;go_at_call 25;refine cV (n2v a _) ?_;rintro e JZ ⟨YF,rfl,GD,mw⟩;have Dz:=aL GD;have YY:=aL (S9.out.on mw);have Mu:a<=JZ.heap.size:=dE VE mw.size;clear GD mw;have FW:True:=trivial)|(clear FW;go_at_call 25;refine cV (n2v a _) ?_;rintro e pu ⟨YE,rfl,GC,vW⟩;have Pp:=aL GC;replace Dz:=aL (TreeV.on Dz.out vW);have YX:=aL (YY.out.on vW);have Gf:a<=pu.heap.size:=dE Mu vW.size;clear GC vW;have FV:True:=trivial)|(clear FV;go_at_call 24;refine cV (If ⟨#[94]⟩ _ _ _ _ a _ Dz.out Pp.out Gf) ?_;rintro e JY ⟨YD,rfl,GB,jl⟩;have Pn:=aL GB;have YW:=aL (YX.out.on jl);have Ge:a<=JY.heap.size:=dE Gf jl.size;clear GB jl;have FU:True:=trivial)|(clear FU;go_at_call 26;refine cV (yeb ⟨#[45]⟩ _ _ a _ Pn.out Ge) ?_;rintro e QW ⟨X13,rfl,GA,ta⟩;have Pm:=aL GA;have Ud:=aL (YW.out.on ta);have Mt:a<=QW.heap.size:=dE Ge ta.size;clear GA ta;have FT:True:=trivial)|(clear FT;go_at_call 19;(with_reducible refine(Qs Ud.out g.out (t:=Fx.pb) Pm.out u5 ⟨#[45,40,50,94,50,41]⟩ Fx.yrh bL).mono ?_);rintro e Ao ⟨rfl,j,r⟩;have YV:=aL (Ud.out.print g.out j r);have Ms:a<=Ao.heap.size:=dE Mt j.size;clear j r;have FR:True:=trivial)|(clear FR;go_at_call 25;refine cV (n2v a _) ?_;rintro e Vh ⟨X15,rfl,Gz,Cr⟩;have Pl:=aL Gz;have YU:=aL (YV.out.on Cr);have Gd:a<=Vh.heap.size:=dE Ms Cr.size;clear Gz Cr;have FQ:True:=trivial)|(clear FQ;go_at_call 26;refine cV (yeb ⟨#[45]⟩ _ _ a _ Pl.out Gd) ?_;rintro e Vg ⟨X16,rfl,Gy,Cq⟩;have Dy:=aL Gy;have YT:=aL (YU.out.on Cq);have Mr:a<=Vg.heap.size:=dE Gd Cq.size;clear Gy Cq;have FP:True:=trivial)|(clear FP;go_at_call 25;refine cV (n2v a _) ?_;rintro e Vf ⟨X17,rfl,Gx,vV⟩;have Pk:=aL Gx;replace Dy:=aL (TreeV.on Dy.out vV);have YS:=aL (YT.out.on vV);have Gc:a<=Vf.heap.size:=dE Mr vV.size;clear Gx vV;have FO:True:=trivial)|(clear FO;go_at_call 24;refine cV (If ⟨#[94]⟩ _ _ _ _ a _ Dy.out Pk.out Gc) ?_;rintro e Ve ⟨X18,rfl,Gw,Cp⟩;have Pj:=aL Gw;have Uc:=aL (YS.out.on Cp);have Mq:a<=Ve.heap.size:=dE Gc Cp.size;clear Gw Cp;have FN:True:=trivial)|(clear FN;go_at_call 19;(with_reducible refine(Qs Uc.out g.out (t:=Fx.pc) Pj.out u5 ⟨#[45,50,94,50]⟩ Fx.ypU bL).mono ?_);rintro e Vd ⟨rfl,j,r⟩;have YR:=aL (Uc.out.print g.out j r);have Mp:a<=Vd.heap.size:=dE Mq j.size;clear j r;have FM:True:=trivial)|(clear FM;go_at_call 25;refine cV (n1v a _) ?_;rintro e Vc ⟨X20,rfl,Gv,Co⟩;have Dx:=aL Gv;have YQ:=aL (YR.out.on Co);have Mo:a<=Vc.heap.size:=dE Mp Co.size;clear Gv Co;have FL:True:=trivial)|(clear FL;go_at_call 25;refine cV (n2v a _) ?_;rintro e Vb ⟨X21,rfl,Gu,vU⟩;have Pi:=aL Gu;replace Dx:=aL (TreeV.on Dx.out vU);have YP:=aL (YQ.out.on vU);have Gb:a<=Vb.heap.size:=dE Mo vU.size;clear Gu vU;have FK:True:=trivial)|(clear FK;go_at_call 24;refine cV (If ⟨#[45]⟩ _ _ _ _ a _ Dx.out Pi.out Gb) ?_;rintro e Va ⟨X22,rfl,Gt,Cn⟩;have Dw:=aL Gt;have YO:=aL (YP.out.on Cn);have Mn:a<=Va.heap.size:=dE Gb Cn.size;clear Gt Cn;have FJ:True:=trivial)|(clear FJ;go_at_call 25;refine cV (n3v a _) ?_;rintro e U9 ⟨X23,rfl,Gs,vT⟩;have Ph:=aL Gs;replace Dw:=aL (TreeV.on Dw.out vT);have YN:=aL (YO.out.on vT);have Ga:a<=U9.heap.size:=dE Mn vT.size;clear Gs vT;have FI:True:=trivial)|(clear FI;go_at_call 24;refine cV (If ⟨#[45]⟩ _ _ _ _ a _ Dw.out Ph.out Ga) ?_;rintro e U8 ⟨X24,rfl,Gr,Cm⟩;have Pg:=aL Gr;have Ub:=aL (YN.out.on Cm);have Mm:a<=U8.heap.size:=dE Ga Cm.size;clear Gr Cm;have FH:True:=trivial)|(clear FH;go_at_call 19;(with_reducible refine(Qs Ub.out g.out (t:=Fx.pd) Pg.out u5 ⟨#[49,45,50,45,51]⟩ Fx.ypV bL).mono ?_);rintro e U5 ⟨rfl,j,r⟩;have YM:=aL (Ub.out.print g.out j r);have Ml:a<=U5.heap.size:=dE Mm j.size;clear j r;have FG:True:=trivial)|(clear FG;go_at_call 25;refine cV (n1v a _) ?_;rintro e UZ ⟨X26,rfl,Gq,Cl⟩;have F:=aL Gq;have YL:=aL (YM.out.on Cl);have Mk:a<=UZ.heap.size:=dE Ml Cl.size;clear Gq Cl;have FF:True:=trivial)|(clear FF;go_at_call 25;refine cV (n2v a _) ?_;rintro e UY ⟨X27,rfl,Gp,vS⟩;have Dv:=aL Gp;replace F:=aL (TreeV.on F.out vS);have YK:=aL (YL.out.on vS);have Mj:a<=UY.heap.size:=dE Mk vS.size;clear Gp vS;have FE:True:=trivial)|(clear FE;go_at_call 25;refine cV (n3v a _) ?_;rintro e UX ⟨X28,rfl,Gn,s9⟩;have Pf:=aL Gn;replace F:=aL (TreeV.on F.out s9);replace Dv:=aL (TreeV.on Dv.out s9);have YJ:=aL (YK.out.on s9);have F9:a<=UX.heap.size:=dE Mj s9.size;clear Gn s9;have FD:True:=trivial)|(clear FD;go_at_call 24;refine cV (If ⟨#[45]⟩ _ _ _ _ a _ Dv.out Pf.out F9) ?_;rintro e UW ⟨X29,rfl,Gm,vR⟩;have Pd:=aL Gm;replace F:=aL (TreeV.on F.out vR);have YI:=aL (YJ.out.on vR);have F8:a<=UW.heap.size:=dE F9 vR.size;clear Gm vR;have FC:True:=trivial)|(clear FC;go_at_call 24;refine cV (If ⟨#[45]⟩ _ _ _ _ a _ F.out Pd.out F8) ?_;rintro e UU ⟨X30,rfl,Gl,Ck⟩;have Pc:=aL Gl;have Ua:=aL (YI.out.on Ck);have Mi:a<=UU.heap.size:=dE F8 Ck.size;clear Gl Ck;have FB:True:=trivial)|(clear FB;go_at_call 19;(with_reducible refine(Qs Ua.out g.out (t:=Fx.pe) Pc.out u5 ⟨#[49,45,40,50,45,51,41]⟩ Fx.ynn bL).mono ?_);rintro e UT ⟨rfl,j,r⟩;have YH:=aL (Ua.out.print g.out j r);have VH:a<=UT.heap.size:=dE Mi j.size;clear j r;have QX:True:=trivial))
       go_wp2_with (first|(go_at_call 14;refine cY (rC.out _) ?_)|(go_at_call 14;refine cY (HF9.out _) ?_))
       go_ret
       exact RetB.of rfl YH.out.bl)
end
end Go.Proofs.YtilbpmimoijfhaaGreatDoor
