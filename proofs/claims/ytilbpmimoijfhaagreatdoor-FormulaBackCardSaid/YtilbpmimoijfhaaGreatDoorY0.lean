/- Closing steps that recur, as default tactics. -/
import Derived.Lib.RepeatB
import Derived.WalkSpells
import Derived.WalkLawsBesides
import Derived.Shelf.Strings.SlTrimAscii
import Derived.Lib.SmallJoins
import Derived.Deep.SlicePairs
import Derived.HandedShaped
import Derived.Lib.LaidU8
import Derived.Shelf.GgClosure.StringsTrimFunc
import Derived.Shelf.Strings.Builder1
import Derived.Deep.RegionHeld3
import Derived.Laws.CopyOwn
import Derived.Lib.AppendIntMem
import Derived.Deep.DeepCutAuto
import Derived.Laws.AppendOwnNone
import Derived.Lib.ParseIntBCases
import Derived.Lib.AtoiErrMem
import Derived.RangeFuncNested
import Derived.Maps.OwnIn
import Derived.Deep.AppendLies
import Derived.Lib.Replace
import Derived.Lib.Join
import Derived.Test.YtilbpmimoijfhaaGreatDoorProg
namespace Go.Proofs.YtilbpmimoijfhaaGreatDoor
set_option linter.all false
open Go.RowKit Go.Proofs.Tryz
set_option maxRecDepth 100000
def bv:=@if_neg
def bT:=@if_pos
def eR:=@Nat.lt_of_lt_of_le
def dE:=@Nat.le_trans
def eL:=@decide_eq_false
def fs:=@Bool.and_eq_true
def jd:=@Nat.mul_lt_mul_of_pos_right
def gN:=@beq_eq_false_iff_ne
def eB:=@bodyPost_ret
def fv:=@decide_eq_true
def hJ:=@Nat.pow_le_pow_right
def gE:=@List.length_cons
def iS:=@Nat.mul_le_mul_right
def fB:=@Nat.mul_assoc
def gA:=@Bool.true_and
def fp:=@Nat.pow_pos
def fM:=@Nat.mul_comm
def dZ:=@congrArg
def i7:=@World.size_alloc
def n9:=@List.getElem?_eq_getElem
def jJ:=@Int.toNat_natCast
def j2:=@List.length_append
def o6:=@List.getElem?_eq_some_iff
def n0:=@List.take_of_length_le
def iR:=@Nat.zero_add
def kF:=@decide_eq_true_eq
def iH:=@Nat.zero_le
def nS:=@Nat.mul_le_mul_left
def lB:=@List.cons_append
def sI:=@List.takeWhile_append_dropWhile
def iW:=@Nat.add_mul
def jW:=@Bool.and_true
def jM:=@Nat.pow_succ
def nn:=@List.length_take
def na:=@List.all_eq_true
def qj:=@World.frozen?_setCell
def o0:=@Nat.mod_eq_of_lt
def tt:=@World.cell?_setCell_other
def ls:=@Nat.le_succ
def sV:=@List.length_eq_zero_iff
def yh:=@List.take_succ_eq_append_getElem
def lY:=@Nat.le_of_lt
def ms:=@Nat.add_zero
def pK:=@List.getElem_mem
def sf:=@World.cell?_of_block
def qV:=@Nat.mul_right_comm
def lR:=@Nat.pow_add
def kk:=@Nat.mod_lt
def lW:=@Nat.mul_add
def rX:=@World.size_setCell
def qu:=@UInt8.toNat_inj
def nW:=@Nat.one_mul
def nJ:=@decide_true
def xE:=@List.drop_eq_getElem_cons
def ti:=@List.length_pos_iff
def rS:=@List.length_drop
def yM:=@List.eq_nil_of_length_eq_zero
def qb:=@List.all_cons
def sd:=@decide_eq_decide
def rD:=@Nat.min_eq_left
def rp:=@List.length_nil
def rm:=@List.append_nil
def oU:=@Nat.mul_one
def wm:=@Nat.div_lt_iff_lt_mul
def oA:=@Below.refl
def tr:=@List.append_assoc
def ty:=@Nat.eq_zero_or_pos
def tF:=@Below.heap_setCell
def qt:=@Nat.lt_or_ge
def qo:=@Nat.zero_mul
def va:=@Nat.add_sub_cancel
def sz:=@Nat.div_add_mod
def oL:=@Below.cell
def yW:=@Array.getD_eq_getD_getElem?
def sc:=@List.drop_zero
def yE:=@World.cell?_setCell_same
def yV:=@List.dropWhile_cons_of_neg
def yX:=@Array.getElem?_eq_some_iff
def t6:=@Nat.div_eq_of_lt
def vf:=@Nat.mul_left_comm
def vL:=@Lib.extract_to_end
def zf:=@List.getElem?_append_left
def lG:=@if_true
def tJ:=@Option.some.inj
def zi:=@run_slice_string_from_if
def vx:=@of_decide_eq_true
def vO:=@Option.some.injEq
def sC:=@List.mem_cons
def xt:=@of_decide_eq_false
def wx:=@Nat.lt_of_le_of_lt
def st:=@Prod.mk.injEq
def sr:=@Nat.mul_zero
def uU:=@List.foldl_cons
def vs:=@Bool.eq_iff_iff
def ye:=@Bool.false_eq_true
def ze:=@List.take_append_drop
def zj:=@Nat.le_div_iff_mul_le
def B7:=@decide_eq_false_iff_not
def E5:=@Nat.add_mul_mod_self_left
def rZ:=@bne_iff_ne
def wh:=@List.take_zero
def xi:=@List.nil_append
def vh:=@Below.setCell
def pI:=@if_false
def sb:=@beq_iff_eq
def KV:=@Nat.eq_of_mul_eq_mul_right
def Hd:=@Nat.lt_of_mul_lt_mul_right
def J6:=@List.takeWhile_cons_of_neg
def yx:=@List.length_set
def zb:=@List.all_takeWhile
def zm:=@Nat.pos_of_ne_zero
def yd:=@Option.map_some
def yF:=@List.not_mem_nil
def zL:=@Bool.or_eq_true_iff
def D3:=@ByteArray.size_append
def vc:=@Below.alloc
def zA:=@IntKind.wrap_u64
def zD:=@List.take_length
def xH:=@Nat.lt_trans
def RM:=@List.dropWhile_cons_of_pos
def ya:=@List.map_cons
def Ip:=@List.dropWhile_sublist
def KC:=@List.drop_eq_nil_of_le
def LM:=@ByteArray.size_extract
def z7:=@Result.andThen_ok
def vr:=@Below.drew
def zr:=@List.find?_cons
def Kp:=@List.dropWhile_suffix
def xV:=@Nat.pow_zero
def zT:=@List.suffix_refl
def xG:=@Nat.mul_pos
def KM:=@Nat.add_mul_div_left
def LK:=@List.mem_of_mem_drop
def Yj:=@Nat.two_pow_add_eq_or_of_lt
def Np:=@List.getElem_cons_succ
def yc:=@Nat.pow_mul
def Wt:=@List.takeWhile_cons_of_pos
def WC:=@List.getElem?_append_right
def CV:=@List.suffix_cons
def KY:=@List.mem_cons_self
def ybY:=@Nat.and_two_pow_sub_one_eq_mod
def Eu:=@List.all_append
def zF:=@Nat.sub_zero
def Ss:=@Bool.or_eq_false_iff
def G0:=@List.length_map
def zq:=@Sem.run_pure
def TV:=@Nat.add_sub_cancel_left
def O1:=@List.dropWhile_cons
def P3:=@List.drop_succ_cons
def yaE:=@List.dropLast_concat_getLast
def Hv:=@Nat.le_of_not_lt
def yc0:=@List.dropWhile_append_of_pos
def EQ:=@List.drop_drop
def yae:=@ByteArray.mk_append_mk
def yaq:=@run_slice_string_to_if
def yas:=@List.drop_of_length_le
def yY:=@Below.trans
def SY:=@List.mem_singleton
def Ay:=@Nat.add_comm
def zM:=@Sem.run_bind
def Il:=@bits_or_u64_nat
def JS:=@Nat.mul_add_div
def XP:=@List.length_replicate
def Nk:=@List.getElem_drop
def Ny:=@Bool.eq_false_iff
def MC:=@List.size_toArray
def U6:=@List.mem_cons_of_mem
def yaj:=@List.mem_of_mem_take
def ya3:=@List.getLast?_eq_getElem?
def yab:=@Bool.and_eq_true_iff
def yal:=@Nat.pow_lt_pow_right
def Td:=@Lib.bytesWorld_below
def KH:=@Bool.false_and
def C7:=@Nat.sub_self
def ybT:=@List.eq_of_mem_replicate
def xM:=@and_self
def SK:=@Lib.extract_data
def Rq:=@World.cell?_drew
def Wn:=@List.replicate_succ
def yat:=@List.take_succ_cons
def ydh:=@Array.getElem?_setIfInBounds_ne
def ybX:=@Nat.le_mul_of_pos_right
def yao:=@Lib.repeatL_length
def yac:=@List.getElem?_drop
def N4:=@Nat.div_le_self
def yR:=@or_false
def ycj:=@Nat.div_div_eq_div_mul
def yb9:=@World.frozen?_setCells
def ZN:=@List.foldl_append
def Xd:=@Lib.nDigits_small
def tq:=@ne_eq
def WQ:=@List.flatten_cons
def TU:=@List.getElem?_map
def My:=@heap_alloc_new
def Hl:=@results_none
def P7:=@IntWalk.i64_in
def R9:=@Option.map_map
def Yw:=@List.all_reverse
def VB:=@Nat.lt_succ_self
def yaf:=@wpList_make_full
def Sc:=@Bool.false_or
def ycg:=@List.take_set_of_le
def yaB:=@Nat.pow_le_pow_left
def ybg:=@Nat.div_mul_le_self
def S6:=@Bool.or_eq_true
def ygg:=@Array.getElem?_eq_getElem
def L9:=@Nat.ne_of_gt
def M8:=@List.map_nil
def ydp:=@World.cell?_setCells_out
def yfK:=@Array.size_setIfInBounds
def Wr:=@Nat.one_le_pow
def Xf:=@Nat.mul_le_mul
def Xx:=@DataW.trod_int
def KI:=@info_parts
def yfN:=@List.getLast_eq_getElem
def ycG:=@not_true_eq_false
def ydO:=@List.getElem_cons_zero
def Ux:=@Nat.add_assoc
def yau:=@Lib.bitLen_le
def Yg:=@Value.agg.inj
def yca:=@List.mem_reverse
def ybB:=@Lib.replaceK_hit
def yfl:=@List.getElem_set_self
def ybA:=@Nat.div_lt_self
def ye9:=@List.reverse_reverse
def yfn:=@List.mem_of_getElem?
def yaw:=@List.cons.injEq
def M1:=@Array.ext'
def yai:=@bodyPost_end
def ybl:=@run_storeAt_mid
def Xk:=@Lib.index_ge
def ylF:=@List.getLast?_eq_some_getLast
def yd0:=@all_oneCell_toArray
def yfk:=@List.toList_toArray
def EF:=@dif_neg
def CT:=@dif_pos
def ya0:=@List.take_take
def yhU:=@List.takeWhile_append_of_pos
def yco:=@run_loadAt_mid
def ycc:=@Lib.count_miss
def WL:=@Nat.le_refl
def ydg:=@Nat.mul_div_cancel
def yev:=@List.getElem?_take
def yfv:=@Array.all_eq_true'
def ybc:=@List.drop_set
def ybx:=@Lib.count_hit
def ycA:=@List.sum_cons
def ydz:=@List.getElem_take
def ydP:=@Nat.lt_trichotomy
def yiC:=@List.mem_of_find?_eq_some
def yk1:=@List.getElem_append_right
def ye8:=@Nat.lt_log2_self
def yaP:=@Bool.or_self
def yen:=@List.drop_length
def yem:=@bits_and_u64_nat
def ycR:=@World.new_ne
def yeu:=@Nat.mul_add_mod
def yeh:=@run_eqGuard_agg
def ye2:=@run_equalIn_agg
def ydm:=@DataW.trod_bool
def ZR:=@enters_of
def yeM:=@run_loadVar_mid
def yeU:=@World.var?_cell
def ykL:=@List.getElem_cons_drop
def ygq:=@World.frozen?_of_block
def yg2:=@List.length_eq_one_iff
def ygJ:=@List.getElem?_reverse
def yjS:=@List.dropLast_eq_take
def ykD:=@List.set_append_right
def ygY:=@UInt8.toNat_sub_of_le
def ykn:=@UInt8.le_iff_toNat_le
def ydW:=@run_neq_struct
def yio:=@Any.strings_Trim_laid
def ykv:=@List.getElem?_toArray
def Pt:=@Ne.symm
def ykf:=@run_convert_to_unsafe
def yhI:=@Array.getElem?_toList
def yiK:=@Array.mem_of_getElem?
def Xy:=@and_true
def ycz:=@Below.mono
def ycw:=@Calls.mono
def ycH:=@ge_iff_le
def aL {p:Prop} (h:p):Hid p:=Lib.hid h
def eN {B:Nat} {w:World}:Below B w w:=oA _ _
def cm {n:Nat}:n<=n:=WL n
def ek {w:World} {o:Obj}:Below w.heap.size w (w.alloc o):=(oA _ _).alloc (WL _) o
def bx {α:Sort _} (a:α): ∃ x,x=a:=⟨a,rfl⟩
def gC {α:Type _} {a b:α} (h:a=b:=by kernel_rfl):some a=some b:=dZ some h
def dj {p:Prop} (h:p:=by kernel_rfl):p:=h
def jL {p:Prop} (h:p:=by
 go_ret
 (first|exact RetB.of (dZ Value.bool HE.out.symm) dt|exact RetB.of (dZ Value.bool (by rw[HE.out];simp only[B7];omega)) dt)):p:=h
def fD {p:Prop} (h:p:=by
 go_ret
 exact RetB.of (dZ Value.bool HE.out.symm) dt):p:=h
def yp {p:Prop} (h:p:=by
 have c6:CF V2 w.heap.size [.int .i64 0,.int .i64 0,.int .i64 0,.string ⟨#[]⟩,.int .i64 0]:=by rw[cz];exact⟨d6.1.off e7 2 _,fun o=>(qj ..).trans (d6.2 o)⟩
 have bV:Below w.heap.size w V2:=by rw[cz];exact bY.setCell (p:=⟨g7,2,none⟩) (lY n1) _
 rw[<-cz]
 clear cz A2 dX Al
 have A0:=c7.1.get 0 rfl;have A1:=c7.1.get 1 rfl;have A2:=c7.1.get 2 rfl;have A3:=c7.1.get 3 rfl;have A4:=c7.1.get 4 rfl;have Al:=c7.1.1
 have U0:=c6.1.get 0 rfl;have U1:=c6.1.get 1 rfl;have U2:=c6.1.get 2 rfl;have U3:=c6.1.get 3 rfl;have U4:=c6.1.get 4 rfl;have Ul:=c6.1.1;have fL:=c6.2 0;have fK:=c6.2 1;have fJ:=c6.2 2;have fI:=c6.2 3;have fH:=c6.2 4
 go_wp2_with fail
 (refine Kc results62 It (c6.1) ?_;exact I7 (HW.out) rfl rfl rfl rfl rfl oD oD oD KJ oD cm (bV))):p:=h
def Oi {p:Prop} (h:p:=by
 go_enter func210,ntmps210
 go_wp2_with (first
  |(go_at_call 60;refine cY (H1.out _) ?_)
  |(go_at_call 60;refine cY (H3.out _) ?_)
  |(go_at_call 246;refine cp (H2.out _) ?_;intro w1 ab;obtain⟨ao,ay,az,af⟩:=g9 (w) ab;(try simp only[fO,gz,fY,gt] at af);obtain⟨ai,am,al,aj,ag,ap⟩:=own6 ab (w.heap.size);obtain⟨be,bh,bg,bf,aV,ci⟩:=own6 ab (w.heap.size+1))
  |(go_at_call 246;refine cp (H4.out _) ?_;intro w2 aa;obtain⟨aI,aO,aN,ah⟩:=g9 (w) aa;(try simp only[fO,gz,fY,gt] at ah);obtain⟨aA,aF,aE,aD,au,aJ⟩:=own6 aa (w.heap.size);obtain⟨bA,bE,bD,bC,aZ,bW⟩:=own6 aa (w.heap.size+1)))
 (refine eB (v:= .tuple #[.agg #[.int .i64 0,.int .i64 0,.bool false,.bool false],.int .i64 3]) (by(simp[results,results210,go_sem,ag,ai,am,al,aj,aV,be,bh,bg,bf,au,aA,aF,aE,aD,aZ,bA,bE,bD,bC];done)) rfl (RetB.of rfl dt))):p:=h
def qO {p:Prop} (h:p:=by exact RetB.of rfl dt):p:=h
def vK {p:Prop} (h:p:=by
 go_ret
 exact RetB.of (by rw[HE.out];rfl) dt):p:=h
def L4 {p:Prop} (h:p:=by
 have HE:=aL (show r=q by rw[hr])
 clear hr
 cases q<;>
 (go_enter func43,ntmps43;go_wp2_with (first|fail|(go_at_call 68;refine cp (HB.out _) ?_;intro w9 ax;obtain⟨bU,bS,bR,aM⟩:=g9 (w) ax;(try simp only[fO,gz,fY,gt] at aM);obtain⟨bt,bo,bn,bm,bj,bu⟩:=own6 ax (w.heap.size)));go_ret;exact RetB.of (dZ Value.bool HE.out.symm) dt)):p:=h
def yhF {p:Prop} (h:p:=by
 go_wp2_with (first|(go_at_call 78;refine cp mQ.out ?_;intro w1 ab;have af:=ab.size;have jV:=cG.trans ab;have d0:Cs w1 w.heap.size [.int .i64 0,.int .i64 0,.int .i64 0,.string ⟨#[]⟩,.int .i64 0]:=⟨by omega,fun j hj=>(jV.cell (p:=⟨w.heap.size,j,none⟩) (show w.heap.size<g2 by omega)).trans (uD.1.2 j hj)⟩;have df:=fun o=>(jV.frozen (p:=⟨w.heap.size,o,none⟩) (show w.heap.size<g2 by omega)).trans (uD.2 o);have d1:Cs w1 (w.heap.size+1) [.int .i64 2,.int .i64 at',.int .i64 0,.string ⟨#[]⟩,.int .i64 0]:=⟨by omega,fun j hj=>(jV.cell (p:=⟨w.heap.size+1,j,none⟩) (show w.heap.size+1<g2 by omega)).trans (oW.1.2 j hj)⟩;have tL:=fun o=>(jV.frozen (p:=⟨w.heap.size+1,o,none⟩) (show w.heap.size+1<g2 by omega)).trans (oW.2 o);have y0:=d1.get 0 rfl;have y1:=d1.get 1 rfl;have y2:=d1.get 2 rfl;have y3:=d1.get 3 rfl;have y4:=d1.get 4 rfl;have y5:=d1.1;have z0:=tL 0;have z1:=tL 1;have z2:=tL 2;have z3:=tL 3;have z4:=tL 4;have x0:=d0.get 0 rfl;have x1:=d0.get 1 rfl;have x2:=d0.get 2 rfl;have x3:=d0.get 3 rfl;have x4:=d0.get 4 rfl;have x5:=d0.1;have t0:=df 0;have t1:=df 1;have t2:=df 2;have t3:=df 3;have t4:=df 4))
 (obtain⟨X_,td⟩: ∃ X,X=((((w1.setCell ⟨w.heap.size+1,2,none⟩ (.int .i64 ((at':Int)+((k:Int)+1)))).setCell ⟨w.heap.size+1,3,none⟩ (.string ⟨eS.toArray⟩))).setCells (w.heap.size) 0 [.int .i64 2,.int .i64 at',.int .i64 ((at':Int)+((k:Int)+1)),.string ⟨eS.toArray⟩,.int .i64 0]):=⟨_,rfl⟩;change bodyPost _ _ _ _ _ ((((w1.setCell ⟨w.heap.size+1,2,none⟩ (.int .i64 ((at':Int)+((k:Int)+1)))).setCell ⟨w.heap.size+1,3,none⟩ (.string ⟨eS.toArray⟩))).setCells (w.heap.size) 0 [.int .i64 2,.int .i64 at',.int .i64 ((at':Int)+((k:Int)+1)),.string ⟨eS.toArray⟩,.int .i64 0]);rw[<-td];have D_:Cs X_ (w.heap.size) [.int .i64 2,.int .i64 at',.int .i64 ((at':Int)+((k:Int)+1)),.string ⟨eS.toArray⟩,.int .i64 0]:=(by rw[td];exact Cs.stored [.int .i64 2,.int .i64 at',.int .i64 ((at':Int)+((k:Int)+1)),.string ⟨eS.toArray⟩,.int .i64 0] (((d0.off Be 2 _).off Be 3 _)) rfl);have Fi:=D_.get 0 rfl;have Fh:=D_.get 1 rfl;have Fg:=D_.get 2 rfl;have Ff:=D_.get 3 rfl;have Fe:=D_.get 4 rfl;have th:Below w.heap.size w X_:=(by rw[td];exact mX (by first|omega|simp) _ _ ((((Cj.trans (jV.mono (lY Sj))).setCell (p:=⟨w.heap.size+1,2,none⟩) (ls _) _).setCell (p:=⟨w.heap.size+1,3,none⟩) (ls _) _)));refine eB (v:= .agg #[.int .i64 2,.int .i64 at',.int .i64 ((at':Int)+((k:Int)+1)),.string ⟨eS.toArray⟩,.int .i64 0]) (by(simp[results,results63,go_sem,Fi,Fh,Fg,Ff,Fe];done)) rfl (RetB.of HE.out.symm th))):p:=h
def yt {p:Prop} (h:p:=by
 go_ret
 exact RetB.of xJ dt):p:=h
def yhd {p:Prop} (h:p:=by
 clear fy h2 hp hs hv iC hl hz
 go_enter func7,ntmps7
 go_wp2_with (first
  |(go_at_call 8;refine cp (fQ.out _ eN) ?_;intro w1 aw;have cH:=aw.size)
  |(go_at_call 17;refine cV (pZ.out _ aw) ?_;rintro e w3 ⟨bz,uX,wu,uZ,ww,uW,tK,uY,tM,fi,sp,fj,sq,kz,zz,rfl,aU⟩;have fb:=aU.size;obtain⟨X3,Y3,wX,F0,mL,mR,bY,zY⟩:=yc1 w3 [.string uX,.string ⟨#[D]⟩,.string wu,.string ⟨#[L]⟩,.string uZ,.string ⟨#[37]⟩,.string ww,.bool fi,.bool sp,.slice (some ⟨bz,0,none⟩) kz kz] [.string uW,.string ⟨#[D]⟩,.string tK,.string ⟨#[L]⟩,.string uY,.string ⟨#[37]⟩,.string tM,.bool fj,.bool sq,.int .i64 zz] rfl rfl rfl rfl;have cL:=aw.trans (aU.mono aw.size);have pn:=aL (cL.trans (bY.mono cL.size));have pi:=aL mL;have x1:=zS pi.out rfl;clear mL mR bY)
  |(go_at_call 18;refine cV (RW HS.out _ _ _ _ _ _ _ _ _ D L _ pn.out) ?_;rintro e w5 ⟨g,b,v,c2,rfl,hg,hb,gU,dh,S5,dr⟩;have pV:=aL S5;have l1:Y3.heap.size<=b:=hb;have l5:b<w5.heap.size:=S5.fw.fo.rd.lt;clear S5 dr)
  |(go_at_call 21;refine cV (Jv.out _ _ _ _ _ pV.out) ?_;rintro e w6 ⟨X6,rfl,kK,eU,mI⟩;obtain⟨O7,jU⟩:=kK.isN;obtain⟨Z6,J4,r5,js,LR⟩:=Dd w6 jU;have At:=eU.size;have mT:=aL ((pV.out.parse HS.out eU mI).on js);have rq:=aL (kK.on js);have kh:=aL r5;have tV:=aL (eU);have D5:=aL js;have BG:=mI.lt;clear kK eU mI jU r5 js)
  |(go_at_call 21;refine cV (dU.out _ _ _ _ _ mT.out) ?_;rintro e w7 ⟨X7,t7,x7,p7,rfl,fm,jO,oy⟩;obtain⟨O6,jT⟩:=fm.isN;obtain⟨Z7,FZ,py,mB,Fd⟩:=Dd w7 jT;have u7:=jO.size;have mS:=aL ((mT.out.parse HS.out jO oy).on mB);have nH:=aL (fm.on mB);have nO:=aL py;have Aa:=aL (jO);have pm:=aL mB;have BF:=oy.lt;clear fm jO oy jT py mB)
  |(go_at_call 21;refine cV (fR.out _ _ _ _ _ mS.out) ?_;rintro e w9 ⟨X9,rfl,v6,jN,qS⟩;obtain⟨Yr,sM⟩:=v6.isN;obtain⟨Z9,LY,F5,wy,LQ⟩:=Dd w9 sM;have As:=jN.size;have tR:=aL ((mS.out.parse HS.out jN qS).on wy);have EU:=aL (v6.on wy);have wM:=aL F5;have Jz:=aL (jN);have QD:=aL wy;have Hs:=qS.lt;have k9:=yiI v6 wM.out;clear v6 jN qS sM F5 wy))
 go_ret
 exact RetB.of rfl tR.out.bl):p:=h
def yfA {p:Prop} (h:p:=by
 go_wp2_with (first
  |(go_at_call 176;refine cV (HP.out _) ?_;rintro e w1 ⟨a1,c1,rfl,s1, -,aw⟩;have bd:=bF.out.trans (aw.mono bF.out.size))
  |(go_at_call 177;refine cV (HM.out _ _ _ (nZ.out.on aw) s1) ?_;rintro e w2 ⟨a2,c2,rfl,s2, -,hb2⟩;have aP:=bd.trans (hb2.mono bd.size))
  |(go_at_call 178;refine cp (HD.out _ _ _ s2 aP) ?_;intro w3 aU;have cL:=aP.trans (aU.mono aP.size))
  |(go_at_call 158;refine cp (JH.out _) ?_;intro w4 cD;have bM:=cL.trans (cD.mono cL.size);have An:=(((Lq.out.on aw).on hb2).on aU).on cD;obtain⟨y0,y1,y2,yf,yl⟩:=An;have uS:=yf 0;have uR:=yf 1;have uQ:=yf 2;have yn: ¬ w.heap.size=w4.heap.size:=aG;have uP: ¬ w4.heap.size=w.heap.size:=aG))
 refine eB (v:=Fl.dv R) (by simp[results,results139,go_sem,y0,y1,y2,uS,uR,uQ,yn,uP,yl];done) rfl (RetB.of (by rw[HR.out]) dt)):p:=h
def zu {p:Prop} (h:p:=by
 have hl:=dN T
 rw[sB];unfold jY
 try rw[<-yh7 a1 a2 a3 a4]
 try rw[<-yh7 b1 b2 b3 b4]
 rw[vs]
 simp only[yns,yj6,hl,ysK]
 simp
 try grind):p:=h
def Qp {p:Prop} (h:p:=by go_enter func68,ntmps68;go_wp2;go_ret;exact RetB.of (dZ Value.bool HE.out.symm) dt):p:=h
def yif {p:Prop} (h:p:=by
 obtain⟨K,X,TT,I,F,a1,a2,a3,a4,b1,b2,b3,b4,a,m,c,rfl,aK, -, -, -, -, -⟩:=ht.flat
 have eo:=WA (w:=w) (cs:=[.int .i64 K,.int .u64 X,.string TT,.bool I,.int .i64 F,.int .i64 a1,.int .i64 a2,.bool a3,.bool a4,.int .i64 b1,.int .i64 b2,.bool b3,.bool b4,.slice a m c]) aK
 rw[aK] at fc jI ⊢
 obtain⟨W0,dF⟩: ∃ W,W=w.alloc (.cells #[.int .i64 K,.int .u64 X,.string TT,.bool I,.int .i64 F,.int .i64 a1,.int .i64 a2,.bool a3,.bool a4,.int .i64 b1,.int .i64 b2,.bool b3,.bool b4,.slice a m c] 27):=⟨_,rfl⟩
 have iE:Below w.heap.size w W0:=Km
 have u9:W0.heap.size=w.heap.size+1:=by rw[dF];simp
 rw[<-dF] at eo
 obtain⟨fQ,oc,rs,HN,HB,HW⟩:=ts fh fc jI eo iE dF
 clear fh fc jI eo iE dF aK ht hrb hs hv mH re
 go_enter func6,ntmps6
 go_upto_region 1 with (fail)
 rw[<-HW.out]
 go_wp2_with (first
  |(go_at_call 8;refine cp (fQ.out _ HB.out) ?_;intro w1 aw;have cH:=aw.size;have y1:=fx (HN.out.on aw);have bd:=HB.out.trans (aw.mono HB.out.size);have ph:=aL (HN.out.on aw))
  |(go_at_call 12;refine cp (oc.out _ bd) ?_;intro w2 hb2;have eK:=hb2.size;have ku:=aL (ph.out.on hb2);have y2:=fx ku.out;have aP:=bd.trans (hb2.mono bd.size))
  |(go_at_call 16;refine cp (rs.out _ aP) ?_;intro w3 aU;have fb:=aU.size;have t8:=aL (ku.out.on aU);have cL:=aP.trans (aU.mono aP.size)))
 go_ret
 exact RetB.of rfl cL):p:=h
def ykZ {p:Prop} (h:p:=by
 have hB:Below w.heap.size w W:=by rw[hW];exact ek
 have x2:W.cell? ⟨w.heap.size,2,none⟩=some (.string T):=qd
 have ky:W.cell? ⟨w.heap.size,13,none⟩=some (.slice (some ⟨bk,o,none⟩) 1 c):=qd
 have xl:=HL.out W (hB.block bk fe)
 have LS:=HL.out W.drew (hB.block bk fe)
 have hl:w.heap.size<W.heap.size:=by rw[hW];simp
 have kp:w.heap.size≠b2:=aG
 have HB:=aL hB
 rw[<-hW]
 clear hW hB
 go_region_held3 (fun w'=>w'.cell? ⟨w.heap.size,2,none⟩=some (.string T)/\w'.cell? ⟨w.heap.size,13,none⟩=some (.slice (some ⟨bk,o,none⟩) 1 c)/\(ox (.pointer (some ⟨bk,o,none⟩))).run prog w'= .ok V w')
  (first|go_keep|exact⟨k2,Ei,kl⟩|exact⟨x2,ky,LS⟩)
  (first
   |(go_at_call 49;(with_reducible refine(HK.out _ (by first|exact HB.out|exact HB.out.drew)).mono ?_);rintro e w2 ⟨rfl,ho,hr⟩;have ew:Onl b2 W w2:=yeL;have k2:=(ew.cell (o:=2) kp hl).trans x2;have Ei:=(ew.cell (o:=13) kp hl).trans ky;have kl:=HL.out w2 ((ew.block bk hb2 aG).trans (HB.out.block bk fe))))
 all_goals(go_wp2_with fail;go_ret)
 all_goals(exact⟨rfl,(Onl.of bQ HB.out).trans ew,hr⟩)):p:=h
def yg7 {p:Prop} (h:p:=by
 have cK:Na.OK (o.set k cc):=by
  have:=Na.UC o k cc dq eG.out aG;rwa[n0 aG] at this
 have HS:=cX.out.set k cc
 have HF:=yhc (some ⟨w.heap.size+1,0,none⟩) (k+1) (o.set k cc) _ (HS.sl cK aG) aG
 rw[aH] at HF
 have In:Below w.heap.size w (wr.setCell ⟨w.heap.size+1,k,none⟩ (.int .u32 (cc:Int))):=yD
 have HG:=aL (fun e w' (hg:FitsR (some ⟨w.heap.size+1,0,none⟩) (o.set k cc) (wr.setCell ⟨w.heap.size+1,k,none⟩ (.int .u32 (cc:Int))) e w')=>(by have:=hg.gives In aG HS;rwa[hv,<-E2.out] at this:ln (Na.add l m) w e w'))
 have JQ:=aL HF
 clear hv cK aH HS HF In
 go_wp2_with (first|(go_at_call 221;refine cV JQ.out ?_;intro e w' hg;obtain⟨a',c',rfl,hs,ho,hb⟩:=HG.out e w' hg))
 refine eB (v:= .tuple #[.slice a' (Na.add l m).1.length c',.int .i64 (Na.add l m).2]) (by simp[results,results281,go_sem]) rfl ⟨a',c',rfl,hs,ho,hb⟩):p:=h
def yeN {p:Prop} (h:p:=by
 have j9:((s[k].toNat :Int) != 46)=true:=yaZ
 have jA:((s[k].toNat :Int) != 95)=true:=yaZ
 have j3:((s[k].toNat :Int)==46)=false:=nY
 have j4:((s[k].toNat :Int)==95)=false:=nY
 have j5: ¬ (s[k].toNat :Int)=46:=aG
 have j6: ¬ (s[k].toNat :Int)=95:=aG
 have j7: ¬ s[k].toNat =46:=aG
 have j8: ¬ s[k].toNat =95:=aG
 clear fz eQ pM hs
 go_wp2
 go_ret
 exact Ret0.of (by rw[HN.out];rfl)):p:=h
def yfR {p:Prop} (h:p:=by
 have h:List.isEmpty (Dc.core s.data.toList)=true:=lI
 have h':Dc.core s.data.toList=[]:=nu
 (refine eB (v:=Dc.Res.val ⟨n,Dc.core s.data.toList,0,0⟩) (by(simp[results,results158,go_sem,Dc.Res.val,ag,ai,am,al,aj];done)) rfl (RetB.of (by rw[Dc.EA (by simpa using h0) h',h']) dt))):p:=h
def yk5 {p:Prop} (h:p:=by
 clear je iI ol jH qJ
 go_wp2_with (first|(go_at_call 61;refine cp (cW.out _) ?_;intro w2 aa;have ah:=aa.size;have a0:=(bc.out 0 w2 aa).trans y0;have a1:=(bc.out 1 w2 aa).trans y1;have a2:=(bc.out 2 w2 aa).trans y2;have a3:=(bc.out 3 w2 aa).trans y3;have a4:=(bc.out 4 w2 aa).trans y4;have ju:=(dI.out 2 w2 aa).trans z2;have jt:=(dI.out 4 w2 aa).trans z4;have u0:=(aC.out 0 w2 aa).trans x0;have u1:=(aC.out 1 w2 aa).trans x1;have u2:=(aC.out 2 w2 aa).trans x2;have u3:=(aC.out 3 w2 aa).trans x3;have u4:=(aC.out 4 w2 aa).trans x4;have jb:=(aB.out 0 w2 aa).trans f0;have ja:=(aB.out 1 w2 aa).trans f1;have i':=(aB.out 2 w2 aa).trans f2;have iZ:=(aB.out 3 w2 aa).trans f3;have iY:=(aB.out 4 w2 aa).trans f4))
 (refine Kc results62 It ((h6.out.on aa).1) ?_;exact I7 (HW.out) rfl rfl rfl rfl rfl oD oD oD KJ oD cm ((ip.trans (aa.mono ip.size))))):p:=h
def oK {p:Prop} (h:p:=by
 go_ret
 exact Ret0.of (dZ Value.bool HE.out.symm)):p:=h
def yak {p:Prop} (h:p:=by(refine Kc results41 It (c3.1) ?_;exact I7 (HW.out) rfl rfl rfl rfl rfl oD oD oD KJ oD cm ((BZ.out.trans (an.mono BZ.out.size))))):p:=h
def ygm {p:Prop} (h:p:=by
 cases half<;>cases rest<;>cases more<;>rcases pG with rfl|rfl
 all_goals first
  |(exfalso;revert hc;decide;done)
  |skip
 all_goals(
  clear hc
  go_enter func271,ntmps271
  go_wp2_with (first
   |(go_at_call 284;refine cY (HF.out _) ?_)
   |(go_at_call 285;refine cY (HU.out _) ?_)
   |(go_at_call 273;(with_reducible refine(HJ.out _ lI lI aG).mono ?_);rintro e w1 ⟨rfl,ab⟩;obtain⟨ao,ay,az,af⟩:=g9 (w) ab;(try simp only[fO,gz,fY,gt] at af);obtain⟨ai,am,al,aj,ag,ap⟩:=own6 ab (b))
   |(go_at_call 286;refine cY (HP.out _) ?_))
  go_ret
  exact RetB.of rfl dt)):p:=h
def ylb {p:Prop} (h:p:=by
 obtain⟨Y,hY⟩:=bx (wr.setCells (w.heap.size+1) 0 [.int .u64 ((0:Nat):Int),.int .u64 ((0:Nat):Int),.int .u64 ((0:Nat):Int)])
 change bodyPost _ _ _ _ _ (wr.setCells (w.heap.size+1) 0 [.int .u64 ((0:Nat):Int),.int .u64 ((0:Nat):Int),.int .u64 ((0:Nat):Int)])
 have HS:=HR.out.stored 0 0 0
 have HX:=mX (b:=w.heap.size+1) (ls w.heap.size) [.int .u64 ((0:Nat):Int),.int .u64 ((0:Nat):Int),.int .u64 ((0:Nat):Int)] 0 bF.out
 rw[<-hY] at HS HX ⊢
 have y0:=HS.1.get 0 rfl
 have y1:=HS.1.get 1 rfl
 have y2:=HS.1.get 2 rfl
 clear hY
 refine eB (v:= .tuple #[.agg #[.int .u64 ((0:Nat):Int),.int .u64 ((0:Nat):Int),.int .u64 ((0:Nat):Int)],.bool b]) ydF rfl ?_
 exact⟨0,0,0,by rw[<-Fa.out],by decide,by decide,by decide,by rw[HE.out];rfl,HX⟩):p:=h
def wL {p:Prop} (h:p:=by go_enter func50,ntmps50;go_wp2;go_ret;exact Ret0.of xJ):p:=h
def xe {p:Prop} (h:p:=by go_enter func56,ntmps56;go_wp2;go_ret;exact Ret0.of xJ):p:=h
def yft {p:Prop} (h:p:=by(refine eB (v:=Dc.Res.val ⟨false,[],0,3⟩) (by(simp[results,results158,go_sem,Dc.Res.val,ag,ai,am,al,aj];done)) rfl (RetB.of (by rw[Dc.yf5 nu]) dt))):p:=h
def yjF {p:Prop} (h:p:=by
 rw[e1]
 have i1:(k:Int)<(m:Int):=aG
 have i2:((most:Int)<((most+1:Nat):Int)):=aG
 have HV:=aL (show Value.int .i64 ((most+1:Nat):Int)= .int .i64 (r:Nat) by
  have h:=ycp (ks:=ks) m
  have h1:Fx.nums (ks.take k)<=Fx.nums (ks.take m):=by
   have:=ycp (ks:=ks.take m) k
   rw[ya0,rD hk] at this
   exact this
  have e:min (1+Fx.nums (ks.take m)) (most+1)=most+1:=aG
  rw[HR.out,e])
 clear e1 jG hN CQ hs tk ei gT
 go_wp2_with fail
 go_ret
 exact RetB.of HV.out dt):p:=h
def ykz {p:Prop} (h:p:=by
 have HE:=aL e;clear e
 go_wp2_with (first|(go_at_call 30;(with_reducible refine(HC.out _ dt).mono ?_);rintro e w2 ⟨rfl,aa⟩;obtain⟨aI,aO,aN,ah⟩:=g9 (w) aa;(try simp only[fO,gz,fY,gt] at ah);obtain⟨aA,aF,aE,aD,au,aJ⟩:=own6 aa (w.heap.size)))
 exact⟨⟨k+1,by omega,by go_num,aL (by have he:=HE.out;rw[<-HS.out];congr 1;omega),(aa.cell (p:=⟨w.heap.size,13,none⟩) (by first|exact dP|omega)).trans gX,eR dP aa.size,aI⟩,by simp[intOf];omega⟩):p:=h
def yiz {p:Prop} (h:p:=by
 go_wp2_with fail
 go_ret
 exact RetB.of HV.out dt):p:=h
def ymf {p:Prop} (h:p:=by
 have HE:=aL e;clear e
 go_wp2_with (first|(go_at_call 28;(with_reducible refine(HC.out _ dt).mono ?_);rintro e w2 ⟨rfl,aa⟩;obtain⟨aI,aO,aN,ah⟩:=g9 (w) aa;(try simp only[fO,gz,fY,gt] at ah);obtain⟨aA,aF,aE,aD,au,aJ⟩:=own6 aa (w.heap.size)))
 exact⟨⟨k+1,by omega,by go_num,aL (by have he:=HE.out;rw[<-HS.out];congr 1;omega),aI⟩,by simp[intOf];omega⟩):p:=h
def yiR {p:Prop} (h:p:=by
 go_wp2_with fail
 go_region_held3 (fun w'=>w'.cell? ⟨w.heap.size,0,none⟩=some (.bool n)/\w'.cell? ⟨w.heap.size,1,none⟩=some (.string s)/\w'.cell? ⟨w.heap.size,2,none⟩=some (.int .i64 x)) (first|go_keep|exact box3 dO cn) (first|(go_at_call 114;refine cp (HP.out _) ?_;intro w3 an;obtain⟨dO,gg,gf,bK⟩:=g9 (w.alloc (.cells #[.bool n,.string s,.int .i64 x] 139)) an;(try simp only[fO,gz,fY,gt] at bK);obtain⟨cT,cS,cP,cO,cN,gK⟩:=own6 an (w.heap.size)))
 go_wp2
 go_ret
 exact RetB.of (dZ Value.string HF.out) (et.out.trans (dO.mono cn))):p:=h
def yhv {p:Prop} (h:p:=by
 subst dM
 obtain rfl:=hs.out
 have HV:=aL (show Value.int .i64 ((min (1+Fx.nums (ks.take k)) (most+1):Nat):Int)= .int .i64 (r:Nat) by rw[HR.out])
 clear hs
 go_wp2_with fail
 go_ret
 exact RetB.of (by first|exact HV.out|exact dZ (Value.int .i64) (show min ((min (1+Fx.nums (ks.take k)) (most+1):Nat):Int) ((most:Int)+1)=(r:Int) by have he:=HV.out;injection he;omega)) dt):p:=h
def yk0 {p:Prop} (h:p:=by
 have h:List.isEmpty (Dc.core s.data.toList)=false:=lI
 have hn:=HN.out nu
 (refine eB (v:=Dc.Res.val ⟨false,[],0,2⟩) yd1 rfl (RetB.of (by rw[Dc.R7 (by simpa using h0) nu hn.1]) dt))):p:=h
def ygS {p:Prop} (h:p:=by
 have hq:(t:Int) / (M:Int) % 4294967296=((t / 2^s % 4294967296:Nat):Int):=by rw[<-HM.out];simp
 rw[hq]
 exact⟨i+1,o2.set i (t / 2^s % 4294967296),by omega,by go_num,aL (cX.out.set i _),aL tG,aL (Na.wa eG.out _ _ (kk _ bL)),aL HS.out.1,aL HS.out.2,aL yD⟩):p:=h
def ydv {p:Prop} (h:p:=by
 go_enter func183,ntmps183
 go_wp2_with (first
  |(go_at_call 113;refine cp (HP.out _) ?_;intro w1 aw;have bd:Below w.heap.size w w1:=eI.trans (aw.mono cn);obtain⟨y0,y1,y2,yl⟩:=lM.on aw))
 go_ret
 exact⟨rfl,HF.out _ bd⟩):p:=h
def Xs {p:Prop} (h:p:=by
 cases neg
 all_goals(
  go_enter func286,ntmps286
  go_wp2
  go_ret
  exact Ret0.of (by first|rfl|(simp[Fl.sgn];done)))):p:=h
def ylh {p:Prop} (h:p:=by
 go_enter func5,ntmps5
 go_upto_region 1 with (fail)
 rw[<-HW.out]
 go_wp2_with (first
  |(go_at_call 8;refine cp (fQ.out _ HB.out) ?_;intro w1 aw;have cH:=aw.size;have y1:=fx (HN.out.on aw);have bd:=HB.out.trans (aw.mono HB.out.size);have ph:=aL (HN.out.on aw))
  |(go_at_call 16;refine cp (rs.out _ bd) ?_;intro w2 hb2;have eK:=hb2.size;have ku:=aL (ph.out.on hb2);have aP:=bd.trans (hb2.mono bd.size)))
 go_ret
 exact RetB.of rfl aP):p:=h
def yfJ {p:Prop} (h:p:=by
 go_ret
 exact HF.out.ret dt _):p:=h
def yaG {p:Prop} (h:p:=by
 have h:=IH.out ks[k] (.slice ak lk ck) lo hi W (HK.out k dz).1 (tk.below hW cF) (dE cF hW.size) (HK.out k dz).2
 rw[gT] at h
 exact h):p:=h
def yjq {p:Prop} (h:p:=by
 clear h6
 go_enter func16,ntmps16
 go_upto_region 1 with (fail)
 rw[<-HW.out]
 go_wp2_with (first
  |(go_at_call 11;refine cp (Lr.out _ HB.out) ?_;intro w1 aw;have cH:=aw.size;have y1:=fx (HN.out.on aw);have bd:=HB.out.trans (aw.mono HB.out.size))
  |(go_at_call 9;refine cp (EV.out _ bd) ?_;intro w2 hb2))
 go_ret
 exact RetB.of rfl (bd.trans (hb2.mono bd.size))):p:=h
def ya4 {p:Prop} (h:p:=by
 clear fz eQ pM hs
 go_wp2
 exact⟨⟨k+1,by omega,by go_num,HN,by first|rfl|trivial⟩,by simp[intOf];omega⟩):p:=h
def ykR {p:Prop} (h:p:=by
 obtain⟨rfl,GH⟩:=hcut
 subst GH
 go_wp2_with (go_at_call 84;refine cp (HI.out _ kO) ?_;intro w5 io;obtain⟨pS,xK,xC,mW⟩:=g9 (w) io;(try simp only[fO,gz,fY,gt] at mW);obtain⟨oH,oG,oE,oB,oz,sD⟩:=own6 io (w.heap.size))
 go_ret
 exact RetB.of (dZ Value.string HF.out) pS):p:=h
def yj2 {p:Prop} (h:p:=by
 have h:=IH.out ks[k] (.slice ak lk ck) (most-N) lo hi W (HK.out k dz) (tk.below hW cF) (dE cF hW.size) aG
 rw[gT] at h
 rw[show(most:Int)-(N:Int)=((most-N:Nat):Int) by omega,show((min N' (most+1):Nat):Int)-(N:Int)=((Fx.cnt ks[k] (most-N):Nat):Int) by rw[Fx.cnt];omega]
 exact h):p:=h
def ylS {p:Prop} (h:p:=by
 have HE:=aL (show Na.val (o.drop off)+Na.B^k*cc=Na.val (q.take k)*2^s by
  have:=bI.out;rwa[n0 (by rw[rS,di.out];omega)] at this)
 go_wp2_with fail
 refine yai (Hl rfl _ _ _) rfl ?_
 exact⟨rfl,bF.out,o,cX.out,di.out,eG.out,nG.out,cc,HE.out⟩):p:=h
def yeZ {p:Prop} (h:p:=by
 refine lS results121 es es dy.out ?_
 exact RetP.bad (((nQ.out.trans (Two.of dw.out))).trans (Two.onl o8.out)) mC.out (ls _) pl):p:=h
def yiD {p:Prop} (h:p:=by
 go_enter func15,ntmps15
 go_wp2_with fail
 go_ret
 exact RetB.of (by rw[HV.out];rfl) dt):p:=h
def yeO {p:Prop} (h:p:=by
 go_enter func176,ntmps176
 go_wp2
 refine eB (v:= .tuple #[.slice none 0 0,.int .i64 1]) WO rfl HE.out):p:=h
def yaI {p:Prop} (h:p:=by
 go_enter func79,ntmps79
 go_wp2_with (go_at_call 106;refine cY (HK.out _) ?_)
 go_ret
 exact Ret0.of rfl):p:=h
def ygI {p:Prop} (h:p:=by(refine Kc results41 It (c3.1) ?_;exact I7 (HW.out) rfl rfl rfl rfl rfl oD oD oD KJ oD cm ((BZ.out.trans (bq.mono BZ.out.size))))):p:=h
def ylu {p:Prop} (h:p:=by
 go_enter func113,ntmps113
 go_wp2_with (first|(go_at_call 112;refine(HD.out).mono ?_;rintro e w1 ⟨rfl,hb2⟩;obtain⟨hc,hf⟩:=VO hb2))
 go_ret
 exact RetB.of (dZ (Value.int .i64) (by rw[HP.out,<-HR.out];rfl)) (aw.trans (hb2.mono cn))):p:=h
def yi8 {p:Prop} (h:p:=by
 go_wp2_with fail
 (refine Kc results62 It (h6.out.1) ?_;exact I7 (HW.out) rfl rfl rfl rfl rfl oD oD oD KJ oD cm (fe.out))):p:=h
def ykY {p:Prop} (h:p:=by
 go_ret
 exact RetB.of Ix dt):p:=h
def ylC {p:Prop} (h:p:=by
 have b0:((n:Int) != k)=true:=pp
 clear aW uu iK jK v1 v2
 go_enter func282,ntmps282
 go_wp2_with (first|(go_at_call 219;refine cY H1.out ?_)|(go_at_call 219;refine cY H2.out ?_))
 go_ret
 exact RetB.of Ix eN):p:=h
def yaH {p:Prop} (h:p:=by intro e;have:=dZ List.length e;rw[nn,rp] at this;omega):p:=h
def yic {p:Prop} (h:p:=by
 have cG:=HK.out.broke uM.out.1 hb
 have uf:=aL cG.2
 have jS:d'<4294967296:=cG.1
 clear cG sL oq
 go_wp2_with fail
 go_quiet (fail)
 go_wp2_with fail
 go_meet
 exact⟨d',rfl,jS,aL ⟨uM.out.2,uf.out⟩,aL (nI.out.drew _)⟩):p:=h
def ygv {p:Prop} (h:p:=by
 have h2:2^s<=Na.B:=dE (hJ bL (show s<=32 by omega)) bL
 rw[jM]
 exact eR (jd h1 (fp bL)) (nS _ h2)):p:=h
def ye6 {p:Prop} (h:p:=by refine eB (v:= .tuple #[.slice none 0 0,.int .i64 2]) ybL rfl e.out):p:=h
def yaQ {p:Prop} (h:p:=by
 go_enter func72,ntmps72
 go_wp2
 go_ret
 exact Ret0.of (by rw[HE.out];rfl)):p:=h
def yj {p:Prop} (h:p:=by
 go_wp2
 go_ret
 exact Ret0.of rfl):p:=h
def yjc {p:Prop} (h:p:=by
 rw[sB,bv aG,bv aG,bv aG,bv aG,bv aG,bv aG,bv aG,bv aG,bv aG,bv aG]
 simp):p:=h
def ybJ {p:Prop} (h:p:=by
 have DE:=aL hu;clear hu
 go_wp2;go_meet
 exact⟨by rw[DE.out],rfl⟩):p:=h
def yln {p:Prop} (h:p:=by
 refine yk3 results92 es es CB.out.1 ?_
 refine(fun hb=>HF.out _ (HS.out _ hb (by first|rfl|trivial)).1 (HS.out _ hb (by first|rfl|trivial)).2) ?_
 exact ymi BZ.out cm):p:=h
def yia {p:Prop} (h:p:=by
 have h:=CF.new ((W.alloc (Obj.cells #[.pointer (some ⟨v,0,none⟩)] 67)).alloc (Obj.cells #[.int .u64 x] 22)) (dcs false ⟨#[]⟩ 0) 139
 rw[i7,i7] at h;exact h):p:=h
def yfc {p:Prop} (h:p:=by
 have:(c.toNat-48)*10^l.length<=9*10^l.length:=iS _ aG
 omega):p:=h
def yah {p:Prop} (h:p:=by
 have:=h ⟨c.toNat,c.toNat_lt⟩
 simpa using this):p:=h
def ylE {p:Prop} (h:p:=by simp only[show(3:Nat)≠1 by decide,show(3:Nat)≠2 by decide,show(3:Nat)≠4 by decide,pI,lG,yeI hl hf,ye]<;>rfl):p:=h
def yle {p:Prop} (h:p:=by
 clear hnb EL
 go_wp2_with (first|(go_at_call 61;refine cp (Jo.out _) ?_;intro w3 an))
 go_meet
 exact⟨by rw[kt.out],aL (C8.trans (an.mono Gk))⟩):p:=h
def yl6 {p:Prop} (h:p:=by
 obtain⟨pD,o,ho,_⟩:=mem_ready.1 hi
 have vG:i<ops.size:=(yX.1 ho).1
 have:=ysQ listed i aG pD
 omega):p:=h
def yjV {p:Prop} (h:p:=by rcases(show k=0∨k=1∨k=2∨k=3∨k=4∨k=5∨k=6∨k=7 by omega) with rfl|rfl|rfl|rfl|rfl|rfl|rfl|rfl<;>rfl):p:=h
def ybQ {p:Prop} (h:p:=by
 go_wp2_with fail
 go_meet
 exact⟨by rw[kt.out],rfl⟩):p:=h
def ygD {p:Prop} (h:p:=by rw[show((R2:Int)==(R1:Int))=decide (R2=R1) by rw[vs];simp only[sb,kF];omega,wG.out,lQ.out]):p:=h
def yki {p:Prop} (h:p:=by
 rw[core,Lib.trimRightB,List.length_reverse]
 have:=(Ip (· ==48) (l:=(lead l).reverse)).length_le
 simpa using this):p:=h
def ygr {p:Prop} (h:p:=by
 have h:=Cs.new (W.alloc (Obj.cells #[.pointer (some ⟨v,0,none⟩)] 67)) [.int .u64 x] 22
 rw[i7] at h;exact h.alloc _):p:=h
def yj3 {p:Prop} (h:p:=by
 have h2:(!Dc.right (Dc.core s.data.toList) x)=false:=lI
 exact absurd (by simpa using h2) (HN.out nu).2):p:=h
def ygH {p:Prop} (h:p:=by
 rw[bv bL,bv bL,bv bL,bv bL,bv (fun a=>by cases a.1)] at h
 simp[no] at h):p:=h
def yf4 {p:Prop} (h:p:=by simp only[ya,ycA,j2] at *;omega):p:=h
def ykd {p:Prop} (h:p:=by
 refine lS results91 es es dy.out ?_
 exact RetP.bad ((Two.of HB.out).trans (Two.onl jw.out)) o7.out cm pl):p:=h
def aG {p:Prop} (h:p:=by omega):p:=h
def bL {p:Prop} (h:p:=by decide):p:=h
def mY {p:Prop} (h:p:=by first|omega|(simp<;>omega)):p:=h
def cn {p:Prop} (h:p:=by simp):p:=h
def cI {p:Prop} (h:p:=by kernel_rfl):p:=h
def dt {p:Prop} (h:p:=by(repeat(first|exact eN|assumption|refine vh ?_ mY _|refine vc ?_ mY _|refine vr ?_|refine oY ?_ _))):p:=h
def es {p:Prop} (h:p:=by rfl):p:=h
def nY {p:Prop} (h:p:=by simp only[gN,tq];omega):p:=h
def lI {p:Prop} (h:p:=by assumption):p:=h
def nu {p:Prop} (h:p:=by simpa using h):p:=h
def pp {p:Prop} (h:p:=by simp;omega):p:=h
def oD {p:Prop} (h:p:=by first|rfl|omega):p:=h
def qd {p:Prop} (h:p:=by rw[hW];simp[go_sem]):p:=h
def qQ {p:Prop} (h:p:=by(try simp only[fO,gz,fY,gt]);omega):p:=h
def yaZ {p:Prop} (h:p:=by simp only[rZ,tq];omega):p:=h
def tn {p:Prop} (h:p:=by simp[one]):p:=h
def tX {p:Prop} (h:p:=by decide +kernel):p:=h
def tG {p:Prop} (h:p:=by rw[yx];exact di.out):p:=h
def XE {p:Prop} (h:p:=by rw[ce]):p:=h
def vi {p:Prop} (h:p:=by unfold fuel;omega):p:=h
def ygN {p:Prop} (h:p:=by rw[vq,dK];rfl):p:=h
def xJ {p:Prop} (h:p:=by rw[HR.out];rfl):p:=h
def xB {p:Prop} (h:p:=by have:=di.out;omega):p:=h
def yct {p:Prop} (h:p:=by rw[da];exact Cs.new w2 _ _):p:=h
def zE {p:Prop} (h:p:=by simp[i7]):p:=h
def yxr {p:Prop} (h:p:=by rw[hY];exact⟨dW.1.put1 4 cn _,fun o=>(qj ..).trans (dW.2 o)⟩):p:=h
def ypP {p:Prop} (h:p:=by rw[hY];exact⟨dV.1.off e7 4 _,fun o=>(qj ..).trans (dV.2 o)⟩):p:=h
def ynB {p:Prop} (h:p:=by rw[hY];exact(ip.trans (ae.mono ip.size)).setCell (p:=⟨g7,4,none⟩) (lY n1) _):p:=h
def yxl {p:Prop} (h:p:=by rw[cz];exact⟨d7.1.put1 2 cn _,fun o=>(qj ..).trans (d7.2 o)⟩):p:=h
def yd7 {p:Prop} (h:p:=by rw[da];exact ek):p:=h
def yfQ {p:Prop} (h:p:=by have:=bM.lt;omega):p:=h
def yK {p:Prop} (h:p:=by rw[rS];omega):p:=h
def yN {p:Prop} (h:p:=by rw[ft];rfl):p:=h
def yD {p:Prop} (h:p:=by have mN:=bF.out;(repeat(first|exact eN|assumption|refine vh ?_ mY _|refine vc ?_ mY _|refine vr ?_|refine oY ?_ _))):p:=h
def yb4 {p:Prop} (h:p:=by rw[<-dN,bH]):p:=h
def zp {p:Prop} (h:p:=by rw[hK,hk];rfl):p:=h
def zv {p:Prop} (h:p:=by(try rw[yb7]);omega):p:=h
def zO {p:Prop} (h:p:=by simpa using n2):p:=h
def Bb {p:Prop} (h:p:=by simpa using n3):p:=h
def Ar {p:Prop} (h:p:=by simpa using n5):p:=h
def z8 {p:Prop} (h:p:=by simpa using n1):p:=h
def Cf {p:Prop} (h:p:=by rw[<-HM.out];exact aW):p:=h
def zQ {p:Prop} (h:p:=by have:=HQ.out;omega):p:=h
def Ci {p:Prop} (h:p:=by simp[go_sem]):p:=h
def Ek {p:Prop} (h:p:=by simp[pq,jq,qY,yz]):p:=h
def CX {p:Prop} (h:p:=by simpa using n4):p:=h
def CY {p:Prop} (h:p:=by rw[hv];simp;omega):p:=h
def CZ {p:Prop} (h:p:=by have:=HR.out;omega):p:=h
def GY {p:Prop} (h:p:=by rw[ycg aG];exact nG.out):p:=h
def DD {p:Prop} (h:p:=by have:=zl;omega):p:=h
def CW {p:Prop} (h:p:=by unfold zB;simp[go_sem]):p:=h
def Ig {p:Prop} (h:p:=by simpa using hi):p:=h
def IX {p:Prop} (h:p:=by unfold maxLen;omega):p:=h
def Ix {p:Prop} (h:p:=by rw[e.out];rfl):p:=h
def KT {p:Prop} (h:p:=by simp[Na.val]):p:=h
def It {p:Prop} (h:p:=by first|rfl|simp):p:=h
def KJ {p:Prop} (h:p:=by first|rfl|assumption):p:=h
def Ia {p:Prop} (h:p:=by have:=a2 k hk;omega):p:=h
def Jb {p:Prop} (h:p:=by simp only[gE,rp] at hj;omega):p:=h
def ypy {p:Prop} (h:p:=by rw[<-dN,dK,LO];omega):p:=h
def M0 {p:Prop} (h:p:=by have:=xt aQ.symm;omega):p:=h
def L1 {p:Prop} (h:p:=by have:=vx aQ.symm;omega):p:=h
def Se {p:Prop} (h:p:=by rw[hr,cB,zD]):p:=h
def L3 {p:Prop} (h:p:=by simp[results,results264,go_sem]):p:=h
def SL {p:Prop} (h:p:=by have:=dZ List.length e;rwa[dN] at this):p:=h
def ybW {p:Prop} (h:p:=by rw[hZ];exact ek):p:=h
def ya5 {p:Prop} (h:p:=by rw[hZ];exact CF.new w1 _ _):p:=h
def Sr {p:Prop} (h:p:=by rw[hK,hk.1];rfl):p:=h
def Km {p:Prop} (h:p:=by rw[dF];exact ek):p:=h
def Wm {p:Prop} (h:p:=by simp[results,results266,go_sem]):p:=h
def WO {p:Prop} (h:p:=by simp[results,results176,go_sem]):p:=h
def yar {p:Prop} (h:p:=by simp[results,results175,go_sem]):p:=h
def XD {p:Prop} (h:p:=by have:=wA.out;omega):p:=h
def T4 {p:Prop} (h:p:=by unfold Fl.Mid at fT;omega):p:=h
def ycB {p:Prop} (h:p:=by rw[iq];exact i7 _ _):p:=h
def ycF {p:Prop} (h:p:=by rw[nn];omega):p:=h
def ybw {p:Prop} (h:p:=by intro c h;simp at h;subst h;decide):p:=h
def ycy {p:Prop} (h:p:=by simp only[fB,fM,vf]):p:=h
def yay {p:Prop} (h:p:=by rcases hl.d with h|h<;>rw[h]<;>decide):p:=h
def ybL {p:Prop} (h:p:=by simp[results,results174,go_sem]):p:=h
def ycn {p:Prop} (h:p:=by rw[hZ,nm,yao];simp;omega):p:=h
def ycW {p:Prop} (h:p:=by intro e;injection e;omega):p:=h
def yb5 {p:Prop} (h:p:=by rw[hZ];exact zg cm (ek)):p:=h
def yp6 {p:Prop} (h:p:=by rw[ej];exact rX _ _ _):p:=h
def yqN {p:Prop} (h:p:=by rw[ej];exact nQ.out.setL 3 _):p:=h
def ybn {p:Prop} (h:p:=by rw[gN,hK];omega):p:=h
def ynr {p:Prop} (h:p:=by rw[e1,B7];exact fun e=>hb (.inl e)):p:=h
def yu5 {p:Prop} (h:p:=by rw[e2,B7];exact fun e=>hb (.inr e)):p:=h
def yn5 {p:Prop} (h:p:=by rw[iT];exact Cs.new w4 _ _):p:=h
def yce {p:Prop} (h:p:=by rw[i7] at kA;omega):p:=h
def yb2 {p:Prop} (h:p:=by show ¬ p=w.heap.size;omega):p:=h
def ycN {p:Prop} (h:p:=by(simp[results,results109,go_sem,u0,u1,u2];done)):p:=h
def yaM {p:Prop} (h:p:=by have:=C3.wt.rd.lt;omega):p:=h
def ycV {p:Prop} (h:p:=by rw[hY];exact mX xx _ _ eN):p:=h
def yd8 {p:Prop} (h:p:=by unfold sg;split<;>(try split)<;>omega):p:=h
def ydc {p:Prop} (h:p:=by intro e;injection e with e1;exact aq e1.symm):p:=h
def yd1 {p:Prop} (h:p:=by(simp[results,results158,go_sem,Dc.Res.val,ag,ai,am,al,aj,cN,cT,cS,cP,cO];done)):p:=h
def ygi {p:Prop} (h:p:=by have:=Dc.Tf s.data.toList;rw[dN] at this;omega):p:=h
def yd4 {p:Prop} (h:p:=by(simp[results,results110,go_sem,ag,ai,am,al,aj,aV,be,bh,bg,bf];done)):p:=h
def ye4 {p:Prop} (h:p:=by(simp[results,results279,go_sem,y0,y1,y2,y3];done)):p:=h
def yfL {p:Prop} (h:p:=by rw[show(34:UInt8).toNat =34 from rfl];omega):p:=h
def ydF {p:Prop} (h:p:=by(simp[results,results287,go_sem,y0,y1,y2];done)):p:=h
def yeg {p:Prop} (h:p:=by(simp[results,results227,go_sem];done)):p:=h
def yed {p:Prop} (h:p:=by first|exact Two.onl xZ.out|exact(Two.of (eN.drew)).trans (Two.onl xZ.out)):p:=h
def yxt {p:Prop} (h:p:=by rw[hI,nm];exact Dc.M2 _ aG):p:=h
def yfg {p:Prop} (h:p:=by first|exact aU|exact(eN.drew).trans aU):p:=h
def yeL {p:Prop} (h:p:=by first|exact ho|exact(Onl.drew1 (Onl.refl _ _)).trans ho):p:=h
def dY {p0 p1:Prop} (h0:p0) (h1:p1):Hid p0/\Hid p1:=⟨aL h0,aL h1⟩
def iJ {p0 p1 p2:Prop} (h0:p0) (h1:p1) (h2:p2):Hid p0/\Hid p1/\Hid p2:=⟨aL h0,aL h1,aL h2⟩
def jv {p0 p1 p2 p3:Prop} (h0:p0) (h1:p1) (h2:p2) (h3:p3):Hid p0/\Hid p1/\Hid p2/\Hid p3:=⟨aL h0,aL h1,aL h2,aL h3⟩
def qF {p0 p1 p2 p3 p4:Prop} (h0:p0) (h1:p1) (h2:p2) (h3:p3) (h4:p4):Hid p0/\Hid p1/\Hid p2/\Hid p3/\Hid p4:=⟨aL h0,aL h1,aL h2,aL h3,aL h4⟩
def ts {p0 p1 p2 p3 p4 p5:Prop} (h0:p0) (h1:p1) (h2:p2) (h3:p3) (h4:p4) (h5:p5):Hid p0/\Hid p1/\Hid p2/\Hid p3/\Hid p4/\Hid p5:=⟨aL h0,aL h1,aL h2,aL h3,aL h4,aL h5⟩
def zo {p0 p1 p2 p3 p4 p5 p6:Prop} (h0:p0) (h1:p1) (h2:p2) (h3:p3) (h4:p4) (h5:p5) (h6:p6):Hid p0/\Hid p1/\Hid p2/\Hid p3/\Hid p4/\Hid p5/\Hid p6:=⟨aL h0,aL h1,aL h2,aL h3,aL h4,aL h5,aL h6⟩
def W5 {p0 p1 p2 p3 p4 p5 p6 p7:Prop} (h0:p0) (h1:p1) (h2:p2) (h3:p3) (h4:p4) (h5:p5) (h6:p6) (h7:p7):Hid p0/\Hid p1/\Hid p2/\Hid p3/\Hid p4/\Hid p5/\Hid p6/\Hid p7:=⟨aL h0,aL h1,aL h2,aL h3,aL h4,aL h5,aL h6,aL h7⟩
def yav {p0 p1 p2 p3 p4 p5 p6 p7 p8:Prop} (h0:p0) (h1:p1) (h2:p2) (h3:p3) (h4:p4) (h5:p5) (h6:p6) (h7:p7) (h8:p8):Hid p0/\Hid p1/\Hid p2/\Hid p3/\Hid p4/\Hid p5/\Hid p6/\Hid p7/\Hid p8:=⟨aL h0,aL h1,aL h2,aL h3,aL h4,aL h5,aL h6,aL h7,aL h8⟩
def EG {p0 p1 p2 p3 p4 p5 p6 p7 p8 p9:Prop} (h0:p0) (h1:p1) (h2:p2) (h3:p3) (h4:p4) (h5:p5) (h6:p6) (h7:p7) (h8:p8) (h9:p9):Hid p0/\Hid p1/\Hid p2/\Hid p3/\Hid p4/\Hid p5/\Hid p6/\Hid p7/\Hid p8/\Hid p9:=⟨aL h0,aL h1,aL h2,aL h3,aL h4,aL h5,aL h6,aL h7,aL h8,aL h9⟩
def VP {p0 p1 p2 p3 p4 p5 p6 p7 p8 p9 p10:Prop} (h0:p0) (h1:p1) (h2:p2) (h3:p3) (h4:p4) (h5:p5) (h6:p6) (h7:p7) (h8:p8) (h9:p9) (h10:p10):Hid p0/\Hid p1/\Hid p2/\Hid p3/\Hid p4/\Hid p5/\Hid p6/\Hid p7/\Hid p8/\Hid p9/\Hid p10:=⟨aL h0,aL h1,aL h2,aL h3,aL h4,aL h5,aL h6,aL h7,aL h8,aL h9,aL h10⟩
def ybi {p0 p1 p2 p3 p4 p5 p6 p7 p8 p9 p10 p11:Prop} (h0:p0) (h1:p1) (h2:p2) (h3:p3) (h4:p4) (h5:p5) (h6:p6) (h7:p7) (h8:p8) (h9:p9) (h10:p10) (h11:p11):Hid p0/\Hid p1/\Hid p2/\Hid p3/\Hid p4/\Hid p5/\Hid p6/\Hid p7/\Hid p8/\Hid p9/\Hid p10/\Hid p11:=⟨aL h0,aL h1,aL h2,aL h3,aL h4,aL h5,aL h6,aL h7,aL h8,aL h9,aL h10,aL h11⟩
def ybU {p0 p1 p2 p3 p4 p5 p6 p7 p8 p9 p10 p11 p12:Prop} (h0:p0) (h1:p1) (h2:p2) (h3:p3) (h4:p4) (h5:p5) (h6:p6) (h7:p7) (h8:p8) (h9:p9) (h10:p10) (h11:p11) (h12:p12):Hid p0/\Hid p1/\Hid p2/\Hid p3/\Hid p4/\Hid p5/\Hid p6/\Hid p7/\Hid p8/\Hid p9/\Hid p10/\Hid p11/\Hid p12:=⟨aL h0,aL h1,aL h2,aL h3,aL h4,aL h5,aL h6,aL h7,aL h8,aL h9,aL h10,aL h11,aL h12⟩
def yxn {p0 p1 p2 p3 p4 p5 p6 p7 p8 p9 p10 p11 p12 p13:Prop} (h0:p0) (h1:p1) (h2:p2) (h3:p3) (h4:p4) (h5:p5) (h6:p6) (h7:p7) (h8:p8) (h9:p9) (h10:p10) (h11:p11) (h12:p12) (h13:p13):Hid p0/\Hid p1/\Hid p2/\Hid p3/\Hid p4/\Hid p5/\Hid p6/\Hid p7/\Hid p8/\Hid p9/\Hid p10/\Hid p11/\Hid p12/\Hid p13:=⟨aL h0,aL h1,aL h2,aL h3,aL h4,aL h5,aL h6,aL h7,aL h8,aL h9,aL h10,aL h11,aL h12,aL h13⟩
def ynH {p0 p1 p2 p3 p4 p5 p6 p7 p8 p9 p10 p11 p12 p13 p14:Prop} (h0:p0) (h1:p1) (h2:p2) (h3:p3) (h4:p4) (h5:p5) (h6:p6) (h7:p7) (h8:p8) (h9:p9) (h10:p10) (h11:p11) (h12:p12) (h13:p13) (h14:p14):Hid p0/\Hid p1/\Hid p2/\Hid p3/\Hid p4/\Hid p5/\Hid p6/\Hid p7/\Hid p8/\Hid p9/\Hid p10/\Hid p11/\Hid p12/\Hid p13/\Hid p14:=⟨aL h0,aL h1,aL h2,aL h3,aL h4,aL h5,aL h6,aL h7,aL h8,aL h9,aL h10,aL h11,aL h12,aL h13,aL h14⟩
def yxq {p0 p1 p2 p3 p4 p5 p6 p7 p8 p9 p10 p11 p12 p13 p14 p15:Prop} (h0:p0) (h1:p1) (h2:p2) (h3:p3) (h4:p4) (h5:p5) (h6:p6) (h7:p7) (h8:p8) (h9:p9) (h10:p10) (h11:p11) (h12:p12) (h13:p13) (h14:p14) (h15:p15):Hid p0/\Hid p1/\Hid p2/\Hid p3/\Hid p4/\Hid p5/\Hid p6/\Hid p7/\Hid p8/\Hid p9/\Hid p10/\Hid p11/\Hid p12/\Hid p13/\Hid p14/\Hid p15:=⟨aL h0,aL h1,aL h2,aL h3,aL h4,aL h5,aL h6,aL h7,aL h8,aL h9,aL h10,aL h11,aL h12,aL h13,aL h14,aL h15⟩
def yxi {p0 p1 p2 p3 p4 p5 p6 p7 p8 p9 p10 p11 p12 p13 p14 p15 p16:Prop} (h0:p0) (h1:p1) (h2:p2) (h3:p3) (h4:p4) (h5:p5) (h6:p6) (h7:p7) (h8:p8) (h9:p9) (h10:p10) (h11:p11) (h12:p12) (h13:p13) (h14:p14) (h15:p15) (h16:p16):Hid p0/\Hid p1/\Hid p2/\Hid p3/\Hid p4/\Hid p5/\Hid p6/\Hid p7/\Hid p8/\Hid p9/\Hid p10/\Hid p11/\Hid p12/\Hid p13/\Hid p14/\Hid p15/\Hid p16:=⟨aL h0,aL h1,aL h2,aL h3,aL h4,aL h5,aL h6,aL h7,aL h8,aL h9,aL h10,aL h11,aL h12,aL h13,aL h14,aL h15,aL h16⟩
def yxw {p0 p1 p2 p3 p4 p5 p6 p7 p8 p9 p10 p11 p12 p13 p14 p15 p16 p17:Prop} (h0:p0) (h1:p1) (h2:p2) (h3:p3) (h4:p4) (h5:p5) (h6:p6) (h7:p7) (h8:p8) (h9:p9) (h10:p10) (h11:p11) (h12:p12) (h13:p13) (h14:p14) (h15:p15) (h16:p16) (h17:p17):Hid p0/\Hid p1/\Hid p2/\Hid p3/\Hid p4/\Hid p5/\Hid p6/\Hid p7/\Hid p8/\Hid p9/\Hid p10/\Hid p11/\Hid p12/\Hid p13/\Hid p14/\Hid p15/\Hid p16/\Hid p17:=⟨aL h0,aL h1,aL h2,aL h3,aL h4,aL h5,aL h6,aL h7,aL h8,aL h9,aL h10,aL h11,aL h12,aL h13,aL h14,aL h15,aL h16,aL h17⟩
def yxj {p0 p1 p2 p3 p4 p5 p6 p7 p8 p9 p10 p11 p12 p13 p14 p15 p16 p17 p18:Prop} (h0:p0) (h1:p1) (h2:p2) (h3:p3) (h4:p4) (h5:p5) (h6:p6) (h7:p7) (h8:p8) (h9:p9) (h10:p10) (h11:p11) (h12:p12) (h13:p13) (h14:p14) (h15:p15) (h16:p16) (h17:p17) (h18:p18):Hid p0/\Hid p1/\Hid p2/\Hid p3/\Hid p4/\Hid p5/\Hid p6/\Hid p7/\Hid p8/\Hid p9/\Hid p10/\Hid p11/\Hid p12/\Hid p13/\Hid p14/\Hid p15/\Hid p16/\Hid p17/\Hid p18:=⟨aL h0,aL h1,aL h2,aL h3,aL h4,aL h5,aL h6,aL h7,aL h8,aL h9,aL h10,aL h11,aL h12,aL h13,aL h14,aL h15,aL h16,aL h17,aL h18⟩
def yxv {p0 p1 p2 p3 p4 p5 p6 p7 p8 p9 p10 p11 p12 p13 p14 p15 p16 p17 p18 p19:Prop} (h0:p0) (h1:p1) (h2:p2) (h3:p3) (h4:p4) (h5:p5) (h6:p6) (h7:p7) (h8:p8) (h9:p9) (h10:p10) (h11:p11) (h12:p12) (h13:p13) (h14:p14) (h15:p15) (h16:p16) (h17:p17) (h18:p18) (h19:p19):Hid p0/\Hid p1/\Hid p2/\Hid p3/\Hid p4/\Hid p5/\Hid p6/\Hid p7/\Hid p8/\Hid p9/\Hid p10/\Hid p11/\Hid p12/\Hid p13/\Hid p14/\Hid p15/\Hid p16/\Hid p17/\Hid p18/\Hid p19:=⟨aL h0,aL h1,aL h2,aL h3,aL h4,aL h5,aL h6,aL h7,aL h8,aL h9,aL h10,aL h11,aL h12,aL h13,aL h14,aL h15,aL h16,aL h17,aL h18,aL h19⟩
def yxo {p0 p1 p2 p3 p4 p5 p6 p7 p8 p9 p10 p11 p12 p13 p14 p15 p16 p17 p18 p19 p20:Prop} (h0:p0) (h1:p1) (h2:p2) (h3:p3) (h4:p4) (h5:p5) (h6:p6) (h7:p7) (h8:p8) (h9:p9) (h10:p10) (h11:p11) (h12:p12) (h13:p13) (h14:p14) (h15:p15) (h16:p16) (h17:p17) (h18:p18) (h19:p19) (h20:p20):Hid p0/\Hid p1/\Hid p2/\Hid p3/\Hid p4/\Hid p5/\Hid p6/\Hid p7/\Hid p8/\Hid p9/\Hid p10/\Hid p11/\Hid p12/\Hid p13/\Hid p14/\Hid p15/\Hid p16/\Hid p17/\Hid p18/\Hid p19/\Hid p20:=⟨aL h0,aL h1,aL h2,aL h3,aL h4,aL h5,aL h6,aL h7,aL h8,aL h9,aL h10,aL h11,aL h12,aL h13,aL h14,aL h15,aL h16,aL h17,aL h18,aL h19,aL h20⟩
def yxf {p0 p1 p2 p3 p4 p5 p6 p7 p8 p9 p10 p11 p12 p13 p14 p15 p16 p17 p18 p19 p20 p21:Prop} (h0:p0) (h1:p1) (h2:p2) (h3:p3) (h4:p4) (h5:p5) (h6:p6) (h7:p7) (h8:p8) (h9:p9) (h10:p10) (h11:p11) (h12:p12) (h13:p13) (h14:p14) (h15:p15) (h16:p16) (h17:p17) (h18:p18) (h19:p19) (h20:p20) (h21:p21):Hid p0/\Hid p1/\Hid p2/\Hid p3/\Hid p4/\Hid p5/\Hid p6/\Hid p7/\Hid p8/\Hid p9/\Hid p10/\Hid p11/\Hid p12/\Hid p13/\Hid p14/\Hid p15/\Hid p16/\Hid p17/\Hid p18/\Hid p19/\Hid p20/\Hid p21:=⟨aL h0,aL h1,aL h2,aL h3,aL h4,aL h5,aL h6,aL h7,aL h8,aL h9,aL h10,aL h11,aL h12,aL h13,aL h14,aL h15,aL h16,aL h17,aL h18,aL h19,aL h20,aL h21⟩
def yxm {p0 p1 p2 p3 p4 p5 p6 p7 p8 p9 p10 p11 p12 p13 p14 p15 p16 p17 p18 p19 p20 p21 p22:Prop} (h0:p0) (h1:p1) (h2:p2) (h3:p3) (h4:p4) (h5:p5) (h6:p6) (h7:p7) (h8:p8) (h9:p9) (h10:p10) (h11:p11) (h12:p12) (h13:p13) (h14:p14) (h15:p15) (h16:p16) (h17:p17) (h18:p18) (h19:p19) (h20:p20) (h21:p21) (h22:p22):Hid p0/\Hid p1/\Hid p2/\Hid p3/\Hid p4/\Hid p5/\Hid p6/\Hid p7/\Hid p8/\Hid p9/\Hid p10/\Hid p11/\Hid p12/\Hid p13/\Hid p14/\Hid p15/\Hid p16/\Hid p17/\Hid p18/\Hid p19/\Hid p20/\Hid p21/\Hid p22:=⟨aL h0,aL h1,aL h2,aL h3,aL h4,aL h5,aL h6,aL h7,aL h8,aL h9,aL h10,aL h11,aL h12,aL h13,aL h14,aL h15,aL h16,aL h17,aL h18,aL h19,aL h20,aL h21,aL h22⟩
def yxh {p0 p1 p2 p3 p4 p5 p6 p7 p8 p9 p10 p11 p12 p13 p14 p15 p16 p17 p18 p19 p20 p21 p22 p23:Prop} (h0:p0) (h1:p1) (h2:p2) (h3:p3) (h4:p4) (h5:p5) (h6:p6) (h7:p7) (h8:p8) (h9:p9) (h10:p10) (h11:p11) (h12:p12) (h13:p13) (h14:p14) (h15:p15) (h16:p16) (h17:p17) (h18:p18) (h19:p19) (h20:p20) (h21:p21) (h22:p22) (h23:p23):Hid p0/\Hid p1/\Hid p2/\Hid p3/\Hid p4/\Hid p5/\Hid p6/\Hid p7/\Hid p8/\Hid p9/\Hid p10/\Hid p11/\Hid p12/\Hid p13/\Hid p14/\Hid p15/\Hid p16/\Hid p17/\Hid p18/\Hid p19/\Hid p20/\Hid p21/\Hid p22/\Hid p23:=⟨aL h0,aL h1,aL h2,aL h3,aL h4,aL h5,aL h6,aL h7,aL h8,aL h9,aL h10,aL h11,aL h12,aL h13,aL h14,aL h15,aL h16,aL h17,aL h18,aL h19,aL h20,aL h21,aL h22,aL h23⟩
def yxs {p0 p1 p2 p3 p4 p5 p6 p7 p8 p9 p10 p11 p12 p13 p14 p15 p16 p17 p18 p19 p20 p21 p22 p23 p24:Prop} (h0:p0) (h1:p1) (h2:p2) (h3:p3) (h4:p4) (h5:p5) (h6:p6) (h7:p7) (h8:p8) (h9:p9) (h10:p10) (h11:p11) (h12:p12) (h13:p13) (h14:p14) (h15:p15) (h16:p16) (h17:p17) (h18:p18) (h19:p19) (h20:p20) (h21:p21) (h22:p22) (h23:p23) (h24:p24):Hid p0/\Hid p1/\Hid p2/\Hid p3/\Hid p4/\Hid p5/\Hid p6/\Hid p7/\Hid p8/\Hid p9/\Hid p10/\Hid p11/\Hid p12/\Hid p13/\Hid p14/\Hid p15/\Hid p16/\Hid p17/\Hid p18/\Hid p19/\Hid p20/\Hid p21/\Hid p22/\Hid p23/\Hid p24:=⟨aL h0,aL h1,aL h2,aL h3,aL h4,aL h5,aL h6,aL h7,aL h8,aL h9,aL h10,aL h11,aL h12,aL h13,aL h14,aL h15,aL h16,aL h17,aL h18,aL h19,aL h20,aL h21,aL h22,aL h23,aL h24⟩
def yxp {p0 p1 p2 p3 p4 p5 p6 p7 p8 p9 p10 p11 p12 p13 p14 p15 p16 p17 p18 p19 p20 p21 p22 p23 p24 p25:Prop} (h0:p0) (h1:p1) (h2:p2) (h3:p3) (h4:p4) (h5:p5) (h6:p6) (h7:p7) (h8:p8) (h9:p9) (h10:p10) (h11:p11) (h12:p12) (h13:p13) (h14:p14) (h15:p15) (h16:p16) (h17:p17) (h18:p18) (h19:p19) (h20:p20) (h21:p21) (h22:p22) (h23:p23) (h24:p24) (h25:p25):Hid p0/\Hid p1/\Hid p2/\Hid p3/\Hid p4/\Hid p5/\Hid p6/\Hid p7/\Hid p8/\Hid p9/\Hid p10/\Hid p11/\Hid p12/\Hid p13/\Hid p14/\Hid p15/\Hid p16/\Hid p17/\Hid p18/\Hid p19/\Hid p20/\Hid p21/\Hid p22/\Hid p23/\Hid p24/\Hid p25:=⟨aL h0,aL h1,aL h2,aL h3,aL h4,aL h5,aL h6,aL h7,aL h8,aL h9,aL h10,aL h11,aL h12,aL h13,aL h14,aL h15,aL h16,aL h17,aL h18,aL h19,aL h20,aL h21,aL h22,aL h23,aL h24,aL h25⟩
def yxx {p0 p1 p2 p3 p4 p5 p6 p7 p8 p9 p10 p11 p12 p13 p14 p15 p16 p17 p18 p19 p20 p21 p22 p23 p24 p25 p26:Prop} (h0:p0) (h1:p1) (h2:p2) (h3:p3) (h4:p4) (h5:p5) (h6:p6) (h7:p7) (h8:p8) (h9:p9) (h10:p10) (h11:p11) (h12:p12) (h13:p13) (h14:p14) (h15:p15) (h16:p16) (h17:p17) (h18:p18) (h19:p19) (h20:p20) (h21:p21) (h22:p22) (h23:p23) (h24:p24) (h25:p25) (h26:p26):Hid p0/\Hid p1/\Hid p2/\Hid p3/\Hid p4/\Hid p5/\Hid p6/\Hid p7/\Hid p8/\Hid p9/\Hid p10/\Hid p11/\Hid p12/\Hid p13/\Hid p14/\Hid p15/\Hid p16/\Hid p17/\Hid p18/\Hid p19/\Hid p20/\Hid p21/\Hid p22/\Hid p23/\Hid p24/\Hid p25/\Hid p26:=⟨aL h0,aL h1,aL h2,aL h3,aL h4,aL h5,aL h6,aL h7,aL h8,aL h9,aL h10,aL h11,aL h12,aL h13,aL h14,aL h15,aL h16,aL h17,aL h18,aL h19,aL h20,aL h21,aL h22,aL h23,aL h24,aL h25,aL h26⟩
def yxk {p0 p1 p2 p3 p4 p5 p6 p7 p8 p9 p10 p11 p12 p13 p14 p15 p16 p17 p18 p19 p20 p21 p22 p23 p24 p25 p26 p27:Prop} (h0:p0) (h1:p1) (h2:p2) (h3:p3) (h4:p4) (h5:p5) (h6:p6) (h7:p7) (h8:p8) (h9:p9) (h10:p10) (h11:p11) (h12:p12) (h13:p13) (h14:p14) (h15:p15) (h16:p16) (h17:p17) (h18:p18) (h19:p19) (h20:p20) (h21:p21) (h22:p22) (h23:p23) (h24:p24) (h25:p25) (h26:p26) (h27:p27):Hid p0/\Hid p1/\Hid p2/\Hid p3/\Hid p4/\Hid p5/\Hid p6/\Hid p7/\Hid p8/\Hid p9/\Hid p10/\Hid p11/\Hid p12/\Hid p13/\Hid p14/\Hid p15/\Hid p16/\Hid p17/\Hid p18/\Hid p19/\Hid p20/\Hid p21/\Hid p22/\Hid p23/\Hid p24/\Hid p25/\Hid p26/\Hid p27:=⟨aL h0,aL h1,aL h2,aL h3,aL h4,aL h5,aL h6,aL h7,aL h8,aL h9,aL h10,aL h11,aL h12,aL h13,aL h14,aL h15,aL h16,aL h17,aL h18,aL h19,aL h20,aL h21,aL h22,aL h23,aL h24,aL h25,aL h26,aL h27⟩
def yxe {p0 p1 p2 p3 p4 p5 p6 p7 p8 p9 p10 p11 p12 p13 p14 p15 p16 p17 p18 p19 p20 p21 p22 p23 p24 p25 p26 p27 p28:Prop} (h0:p0) (h1:p1) (h2:p2) (h3:p3) (h4:p4) (h5:p5) (h6:p6) (h7:p7) (h8:p8) (h9:p9) (h10:p10) (h11:p11) (h12:p12) (h13:p13) (h14:p14) (h15:p15) (h16:p16) (h17:p17) (h18:p18) (h19:p19) (h20:p20) (h21:p21) (h22:p22) (h23:p23) (h24:p24) (h25:p25) (h26:p26) (h27:p27) (h28:p28):Hid p0/\Hid p1/\Hid p2/\Hid p3/\Hid p4/\Hid p5/\Hid p6/\Hid p7/\Hid p8/\Hid p9/\Hid p10/\Hid p11/\Hid p12/\Hid p13/\Hid p14/\Hid p15/\Hid p16/\Hid p17/\Hid p18/\Hid p19/\Hid p20/\Hid p21/\Hid p22/\Hid p23/\Hid p24/\Hid p25/\Hid p26/\Hid p27/\Hid p28:=⟨aL h0,aL h1,aL h2,aL h3,aL h4,aL h5,aL h6,aL h7,aL h8,aL h9,aL h10,aL h11,aL h12,aL h13,aL h14,aL h15,aL h16,aL h17,aL h18,aL h19,aL h20,aL h21,aL h22,aL h23,aL h24,aL h25,aL h26,aL h27,aL h28⟩
def yxg {p0 p1 p2 p3 p4 p5 p6 p7 p8 p9 p10 p11 p12 p13 p14 p15 p16 p17 p18 p19 p20 p21 p22 p23 p24 p25 p26 p27 p28 p29:Prop} (h0:p0) (h1:p1) (h2:p2) (h3:p3) (h4:p4) (h5:p5) (h6:p6) (h7:p7) (h8:p8) (h9:p9) (h10:p10) (h11:p11) (h12:p12) (h13:p13) (h14:p14) (h15:p15) (h16:p16) (h17:p17) (h18:p18) (h19:p19) (h20:p20) (h21:p21) (h22:p22) (h23:p23) (h24:p24) (h25:p25) (h26:p26) (h27:p27) (h28:p28) (h29:p29):Hid p0/\Hid p1/\Hid p2/\Hid p3/\Hid p4/\Hid p5/\Hid p6/\Hid p7/\Hid p8/\Hid p9/\Hid p10/\Hid p11/\Hid p12/\Hid p13/\Hid p14/\Hid p15/\Hid p16/\Hid p17/\Hid p18/\Hid p19/\Hid p20/\Hid p21/\Hid p22/\Hid p23/\Hid p24/\Hid p25/\Hid p26/\Hid p27/\Hid p28/\Hid p29:=⟨aL h0,aL h1,aL h2,aL h3,aL h4,aL h5,aL h6,aL h7,aL h8,aL h9,aL h10,aL h11,aL h12,aL h13,aL h14,aL h15,aL h16,aL h17,aL h18,aL h19,aL h20,aL h21,aL h22,aL h23,aL h24,aL h25,aL h26,aL h27,aL h28,aL h29⟩
structure Zk (q:Prop):Prop where o:q
def yB {p q:Prop} (k:q) (h:Zk q->p:=by intro z';refine cp (cW.out _) ?_;intro w2 aa;have ah:=aa.size;have a0:=(bc.out 0 w2 aa).trans y0;have a1:=(bc.out 1 w2 aa).trans y1;have a2:=(bc.out 2 w2 aa).trans y2;have a3:=(bc.out 3 w2 aa).trans y3;have a4:=(bc.out 4 w2 aa).trans y4;have ju:=(dI.out 2 w2 aa).trans z2;have jt:=(dI.out 4 w2 aa).trans z4;have u0:=(aC.out 0 w2 aa).trans x0;have u1:=(aC.out 1 w2 aa).trans x1;have u2:=(aC.out 2 w2 aa).trans x2;have u3:=(aC.out 3 w2 aa).trans x3;have u4:=(aC.out 4 w2 aa).trans x4;have jb:=(aB.out 0 w2 aa).trans f0;have ja:=(aB.out 1 w2 aa).trans f1;have i':=(aB.out 2 w2 aa).trans f2;have iZ:=(aB.out 3 w2 aa).trans f3;have iY:=(aB.out 4 w2 aa).trans f4;revert w2 aa ah a0 a1 a2 a3 a4 ju jt u0 u1 u2 u3 u4 jb ja i' iZ iY;exact z'.1):p:=h ⟨k⟩
def yv {p q:Prop} (k:q) (h:Zk q->p:=by intro z';have ae:=aa.trans (an.mono ah);have bK:=an.size;have A0:=(bc.out 0 w3 ae).trans y0;have A1:=(bc.out 1 w3 ae).trans y1;have A2:=(bc.out 2 w3 ae).trans y2;have A3:=(bc.out 3 w3 ae).trans y3;have A4:=(bc.out 4 w3 ae).trans y4;have dX:=(dI.out 2 w3 ae).trans z2;have kj:=(dI.out 4 w3 ae).trans z4;have U0:=(aC.out 0 w3 ae).trans x0;have U1:=(aC.out 1 w3 ae).trans x1;have U2:=(aC.out 2 w3 ae).trans x2;have U3:=(aC.out 3 w3 ae).trans x3;have U4:=(aC.out 4 w3 ae).trans x4;have fL:=(aB.out 0 w3 ae).trans f0;have fK:=(aB.out 1 w3 ae).trans f1;have fJ:=(aB.out 2 w3 ae).trans f2;have fI:=(aB.out 3 w3 ae).trans f3;have fH:=(aB.out 4 w3 ae).trans f4;revert ae bK A0 A1 A2 A3 A4 dX kj U0 U1 U2 U3 U4 fL fK fJ fI fH;exact z'.1):p:=h ⟨k⟩
def pt {p q:Prop} (k:q) (h:Zk q->p:=by intro z';intro w9 ax;obtain⟨bU,bS,bR,aM⟩:=g9 (w) ax;(try simp only[fO,gz,fY,gt] at aM);obtain⟨bt,bo,bn,bm,bj,bu⟩:=own6 ax (w.heap.size);revert w9 ax bU bS bR aM bt bo bn bm bj bu;exact z'.1):p:=h ⟨k⟩
def Ks {p q:Prop} (k:q) (h:Zk q->p:=by intro z';have il:=fun W (hb:Below w.heap.size w W)=>ydq (h.on hb) K N E F T bP hN;have kL:R.size<=1000:=ypy;have gL:=fun W=>ykw R W aG;rw[dK] at gL;have e1:(R.toList==[84,82,85,69])=decide (Ce.eY tk.text=Fx.qZ):=ygN;have e2:(R.toList==[70,65,76,83,69])=decide (Ce.eY tk.text=Fx.so):=ygN;have pl:=h.mem.lt;have bp:=h.bp;have b0:Below w.heap.size w ((w.alloc (Obj.cells #[.int .i64 K,.int .i64 F,.int .i64 N,.string T,.int .i64 E] 77)).alloc jg):=(ek).alloc cn _;have c0:=(CF.new w [.int .i64 K,.int .i64 F,.int .i64 N,.string T,.int .i64 E] 77).alloc jg;have d0:=Nd.zero (w.alloc (Obj.cells #[.int .i64 K,.int .i64 F,.int .i64 N,.string T,.int .i64 E] 77));rw[i7] at d0;unfold jg at b0 c0 d0;rw[hc] at il;revert il kL gL e1 e2 pl bp b0 c0 d0;exact z'.1):p:=h ⟨k⟩
def zw {p q:Prop} (k:q) (h:Zk q->p:=by intro z';have aP:Below w.heap.size w w2:=B0.out.trans (hb2.mono cn);have bM:=D0.out.on hb2;obtain⟨Z2,da⟩:=bx (w2.alloc (Obj.cells #[.int .i64 K,.int .i64 F,.int .i64 N,.string T,.int .i64 E] 77));have cZ:Cs Z2 w2.heap.size [.int .i64 K,.int .i64 F,.int .i64 N,.string T,.int .i64 E]:=yct;have bO:Below w2.heap.size w2 Z2:=yd7;have cJ:=bM.on bO;have dL:Below w.heap.size w Z2:=aP.trans (bO.mono aP.size);obtain⟨H2,eZ⟩:=bx (w2.heap.size);have j':w.heap.size<H2:=yfQ;rw[<-da];revert aP bM Z2 da cZ bO cJ dL H2 eZ j';exact z'.1):p:=h ⟨k⟩
def wv {p q:Prop} (k:q) (h:Zk q->p:=by intro z';intro w1 ab;obtain⟨ao,ay,az,af⟩:=g9 (w) ab;(try simp only[fO,gz,fY,gt] at af);revert w1 ab ao ay az af;exact z'.1):p:=h ⟨k⟩
def tE {p q:Prop} (k:q) (h:Zk q->p:=by intro z';obtain⟨ao,ay,az,af⟩:=g9 (w) ab;(try simp only[fO,gz,fY,gt] at af);obtain⟨ai,am,al,aj,ag,ap⟩:=own6 ab (w.heap.size);revert ao ay az af ai am al aj ag ap;exact z'.1):p:=h ⟨k⟩
def Ah {p q:Prop} (k:q) (h:Zk q->p:=by intro z';obtain⟨K,hK⟩:=bx (tk.kind:Int);obtain⟨F,hF⟩:=bx ((S.size-tk.at'.length:Nat):Int);obtain⟨N,hN⟩:=bx ((if tk.kind=6 then(0:Int) else((S.size-tk.end'.length:Nat):Int)):Int);obtain⟨T,ce⟩:=bx (⟨tk.text.toArray⟩:ByteArray);obtain⟨E,dB⟩:=bx (tk.exp:Int);revert K hK F hF N hN T ce E dB;exact z'.1):p:=h ⟨k⟩
def yT {p q:Prop} (k:q) (h:Zk q->p:=by intro z';rintro e w2 ⟨rfl,aa⟩;obtain⟨aI,aO,aN,ah⟩:=g9 (w) aa;(try simp only[fO,gz,fY,gt] at ah);obtain⟨aA,aF,aE,aD,au,aJ⟩:=own6 aa (w.heap.size);revert w2 aa aI aO aN ah aA aF aE aD au aJ;exact z'.1):p:=h ⟨k⟩
def x9 {p q:Prop} (k:q) (h:Zk q->p:=by intro z';have d6:CF Y w.heap.size [.int .i64 0,.int .i64 0,.int .i64 0,.string ⟨#[]⟩,.int .i64 0]:=ypP;have bY:Below w.heap.size w Y:=ynB;rw[<-hY];revert d6 bY;exact z'.1):p:=h ⟨k⟩
def ymk {p q:Prop} (k:q) (h:Zk q->p:=by 
 intro z';have ey:Below W6.heap.size W6 W7:=by rw[iq];exact ek
 have uk:W7.heap.size=W6.heap.size+1:=ycB;have gF:=IsN.of (Fx.nod 7 T.data.toList [t1]) (some ⟨W6.heap.size,0,none⟩) 1 1;have ct:Nd W7 w.heap.size znv:=(gc.out.of ((fU _ aG).trans (E4.out _ aG aG aG))).on ey;have dg:(ve (.pointer (some ⟨w.heap.size,0,none⟩)) (.agg #[.int .i64 7,.int .u64 0,.string T,.bool false,.int .i64 0,.int .i64 0,.int .i64 0,.bool false,.bool false,.int .i64 0,.int .i64 0,.bool false,.bool false,.slice (some ⟨W6.heap.size,0,none⟩) 1 1])).run prog W7= .ok () (nput W7 w.heap.size (.agg #[.int .i64 7,.int .u64 0,.string T,.bool false,.int .i64 0,.int .i64 0,.int .i64 0,.bool false,.bool false,.int .i64 0,.int .i64 0,.bool false,.bool false,.slice (some ⟨W6.heap.size,0,none⟩) 1 1])):=jP ct gF;have fG:=aL (show Nd (nput W7 w.heap.size (.agg #[.int .i64 7,.int .u64 0,.string T,.bool false,.int .i64 0,.int .i64 0,.int .i64 0,.bool false,.bool false,.int .i64 0,.int .i64 0,.bool false,.bool false,.slice (some ⟨W6.heap.size,0,none⟩) 1 1])) w.heap.size (.agg #[.int .i64 7,.int .u64 0,.string T,.bool false,.int .i64 0,.int .i64 0,.int .i64 0,.bool false,.bool false,.int .i64 0,.int .i64 0,.bool false,.bool false,.slice (some ⟨W6.heap.size,0,none⟩) 1 1]) from ct.put gF);have oX:=lH.below ey aG;have nX:Two p b w W7:=kP.trans (Two.of ey);revert ey uk gF ct dg fG oX nX;exact z'.1):p:=h ⟨k⟩
def zd {p q:Prop} (k:q) (h:Zk q->p:=by intro z';have z0:=cZ.get 0 rfl;have z1:=cZ.get 1 rfl;have z2:=cZ.get 2 rfl;have z3:=cZ.get 3 rfl;have z4:=cZ.get 4 rfl;have zl:=cZ.1;have HB:=aL dL;have dU:=aL (HP.out.on dL);obtain⟨gc,qK⟩:=dY cJ cZ;revert z0 z1 z2 z3 z4 zl HB dU gc qK;exact z'.1):p:=h ⟨k⟩
def yaL {p q:Prop} (k:q) (h:Zk q->p:=by 
 intro z';obtain⟨Z4,iT⟩:=bx (w4.alloc (Obj.cells #[.int .i64 c1,.int .i64 c2,.bool c3,.bool c4] 24));have cD:Below w4.heap.size w4 Z4:=by rw[iT];exact ek
 have cR:Cs Z4 w4.heap.size [.int .i64 c1,.int .i64 c2,.bool c3,.bool c4]:=yn5;have tI:Nd Z4 (w.heap.size+1) znv:=(dk.out.of (jw.out.block _ aG aG)).on cD;have pT:Two p b w Z4:=((Two.of dc.out).trans (Two.onl jw.out)).trans (Two.of cD);obtain⟨H4,j'⟩:=bx (w4.heap.size);rw[<-iT];revert Z4 iT cD cR tI pT H4 j';exact z'.1):p:=h ⟨k⟩
def zP {p q:Prop} (k:q) (h:Zk q->p:=by intro z';have HE:=aL (show r=false by rw[hr,eL hX];simp);have d0:((X:Int)==0)=false:=nY;have d1:((X:Int) != 0)=true:=yaZ;have d2: ¬ (X:Int)=0:=aG;revert HE d0 d1 d2;exact z'.1):p:=h ⟨k⟩
def ymg {p q:Prop} (k:q) (h:Zk q->p:=by intro z';have p2:Z.cell? ⟨p,2,none⟩=_:=(BZ.out.cell (p:=⟨p,2,none⟩) pl).trans m2;have pf:Z.frozen? ⟨p,2,none⟩=false:=(BZ.out.frozen (p:=⟨p,2,none⟩) pl).trans f2;have pz:p<Z.heap.size:=aG;revert p2 pf pz;exact z'.1):p:=h ⟨k⟩
def yeC {p q:Prop} (k:q) (h:Zk q->p:=by intro z';have n5: ¬ H=p:=aG;have n6: ¬ p=H:=aG;have n7: ¬ H=w.heap.size+1:=aG;have n8: ¬ w.heap.size+1=H:=aG;refine ymg ?_;intro p2 pf pz;have y1:=C0.1.get 1 rfl;have y2:=C0.1.get 2 rfl;have yl:=C0.1.1;have x0:=CB.out.1.get 0 rfl;have x1:=CB.out.1.get 1 rfl;have x2:=CB.out.1.get 2 rfl;have x3:=CB.out.1.get 3 rfl;have xl:=CB.out.1.1;have g0:=CB.out.2 0;have g1:=CB.out.2 1;have g2:=CB.out.2 2;have g3:=CB.out.2 3;revert n5 n6 n7 n8 p2 pf pz y1 y2 yl x0 x1 x2 x3 xl g0 g1 g2 g3;exact z'.1):p:=h ⟨k⟩
def ydX {p q:Prop} (k:q) (h:Zk q->p:=by intro z';have ga:Two p b Z4 Z5:=((Two.of ui.out).trans (Two.onl nM.out)).trans (Two.of dr);have qw:Nd Z5 (w.heap.size+1) znv:=gc.out.two ga aG aG;have fk:Z5.heap[H4]? =Z4.heap[H4]? :=ga.block H4 aG aG lT;have oR:Cs Z5 H4 [.int .i64 c1,.int .i64 c2,.bool c3,.bool c4]:=⟨eR lT ga.size,fun j hj=>(sf (a:=⟨H4,j,none⟩) fk).trans (xX.out.2 j hj)⟩;have iM:=DO.out.on dr;have nF:Two p b w Z5:=wT.out.trans ga;rw[<-fV];obtain⟨p8,pW,nL,nQ⟩:=jv qw oR iM nF;have Av:=oR.1;have GS:=ga.size;revert ga qw fk oR iM nF p8 pW nL nQ Av GS;exact z'.1):p:=h ⟨k⟩
def ya6 {p:Prop} (h:p:=by rw[hY];exact⟨dW.1.put1 4 cn _,fun o=>(qj ..).trans (dW.2 o)⟩):p:=h
def GQ {p:Prop} (h:p:=by rw[cz];exact⟨d7.1.put1 2 cn _,fun o=>(qj ..).trans (d7.2 o)⟩):p:=h
def Ww {p q:Prop} (k:q) (h:Zk q->p:=by intro z';refine cp (qA.out _) ?_;intro v1 du;have dw:=aL (fN.out.trans (du.mono fN.out.size));have bG:=aL (lO.out.on du);have u0:=bG.out.get 0 rfl;have u1:=bG.out.get 1 rfl;have u2:=bG.out.get 2 rfl;have u3:=bG.out.get 3 rfl;have u4:=bG.out.get 4 rfl;have ul:=bG.out.1;clear du;revert v1 dw bG u0 u1 u2 u3 u4 ul;exact z'.1):p:=h ⟨k⟩
def M3 {p q:Prop} (k:q) (h:Zk q->p:=by intro z';have bH:T.data.toList=tk.text:=XE;have pl:=h.mem.lt;have bp:=h.bp;have b0:Below w.heap.size w (w.alloc jg):=ek;have d0:=Nd.zero w;unfold jg at b0 d0;have aR:=Fx.SH D L l;rw[<-aX] at aR;have bP:=aR.trans h.suf;revert bH pl bp b0 d0 aR bP;exact z'.1):p:=h ⟨k⟩
def ybF {p q:Prop} (k:q) (h:Zk q->p:=by 
 intro z';have dW:=h7.out.on ae;have dV:=h6.out.on ae;obtain⟨Y,hY⟩:=bx (w3.setCell ⟨g7,4,none⟩ (.int .i64 (px+ -1000000000)));have d7:CF Y g7 [.int .i64 1,.int .i64 at',.int .i64 en,.string TX,.int .i64 (px+ -1000000000)]:=by exact ya6
 revert dW dV Y hY d7;exact z'.1):p:=h ⟨k⟩
def yax {p q:Prop} (k:q) (h:Zk q->p:=by 
 intro z';have dW:=h7.out.on ae;have dV:=h6.out.on ae;obtain⟨Y,hY⟩:=bx (w3.setCell ⟨g7,4,none⟩ (.int .i64 (px+1000000000)));have d7:CF Y g7 [.int .i64 1,.int .i64 at',.int .i64 en,.string TX,.int .i64 (px+1000000000)]:=by exact ya6
 revert dW dV Y hY d7;exact z'.1):p:=h ⟨k⟩
def ybj {p q:Prop} (k:q) (h:Zk q->p:=by intro z';refine cp (mF.out _ cq.out) ?_;intro w2 aa;have cC:=aL (cq.out.trans (aa.mono cq.out.size));have aS:=aL (aT.out.on aa);have dm:=aL (dn.out.on aa);have lz:=aS.out.1.get 0 rfl;have lw:=aS.out.1.get 1 rfl;have lp:=aS.out.1.get 2 rfl;have li:=aS.out.1.get 3 rfl;have lf:=aS.out.1.get 4 rfl;have la:=aS.out.1.1;have lK:=dm.out.lt;clear aa;revert w2 cC aS dm lz lw lp li lf la lK;exact z'.1):p:=h ⟨k⟩
def ybh {p q:Prop} (k:q) (h:Zk q->p:=by intro z';refine cp (mF.out _ cC.out) ?_;intro w3 an;have dc:=aL (cC.out.trans (an.mono cC.out.size));have aY:=aL (aS.out.on an);have dk:=aL (dm.out.on an);have ly:=aY.out.1.get 0 rfl;have lr:=aY.out.1.get 1 rfl;have lm:=aY.out.1.get 2 rfl;have lh:=aY.out.1.get 3 rfl;have ld:=aY.out.1.get 4 rfl;have kZ:=aY.out.1.1;have lJ:=dk.out.lt;clear an;revert w3 dc aY dk ly lr lm lh ld kZ lJ;exact z'.1):p:=h ⟨k⟩
def ymR {p q:Prop} (k:q) (h:Zk q->p:=by intro z';have gY:T.size=tk.text.length:=yb4;have bP:=cA.trans h.suf;have dQ:=fun W=>yef T W aG;rw[bH] at dQ;obtain⟨R,hR⟩:=bx (⟨(Ce.eY tk.text).toArray⟩:ByteArray);revert gY bP dQ R hR;exact z'.1):p:=h ⟨k⟩
def ycU {p q:Prop} (k:q) (h:Zk q->p:=by intro z';refine cp (qB.out _) ?_;intro w1 ab;have cq:=aL (eH.out.trans (ab.mono eH.out.size));have aT:=aL (iO.out.on ab);have dn:=aL (iN.out.on ab);have lA:=aT.out.1.get 0 rfl;have lx:=aT.out.1.get 1 rfl;have lq:=aT.out.1.get 2 rfl;have lj:=aT.out.1.get 3 rfl;have lg:=aT.out.1.get 4 rfl;have lc:=aT.out.1.1;have lL:=dn.out.lt;clear ab;revert w1 cq aT dn lA lx lq lj lg lc lL;exact z'.1):p:=h ⟨k⟩
def vb {p q:Prop} (k:q) (h:Zk q->p:=by intro z';rintro e w3 ⟨rfl,dx,fy⟩;obtain⟨fg,fR⟩:=dY dx fy;have fb:=dx.size;clear dx fy;revert w3 fg fR fb;exact z'.1):p:=h ⟨k⟩
def yb6 {p q:Prop} (k:q) (h:Zk q->p:=by intro z';have pl:=h.mem.lt;have bp:=h.bp;have b0:Below w.heap.size w (w.alloc jg):=ek;have d0:=Nd.zero w;unfold jg at b0 d0;revert pl bp b0 d0;exact z'.1):p:=h ⟨k⟩
def zV {p q:Prop} (k:q) (h:Zk q->p:=by intro z';have hB:Below w.heap.size w (w.alloc (Obj.cells #[Value.slice a l.length c,Value.slice b m.length d] 187)):=ek;revert hB;exact z'.1):p:=h ⟨k⟩
def zJ {p q:Prop} (k:q) (h:Zk q->p:=by intro z';have HE:=aL (show r=false by rw[hr,eL hF];simp);have d0:(F==0)=false:=nY;have d1:(F != 0)=true:=yaZ;revert HE d0 d1;exact z'.1):p:=h ⟨k⟩
def Xh {p q:Prop} (k:q) (h:Zk q->p:=by intro z';have n1: ¬ p=w.heap.size:=aG;have n2: ¬ w.heap.size=p:=aG;revert n1 n2;exact z'.1):p:=h ⟨k⟩
def D2 {p q:Prop} (k:q) (h:Zk q->p:=by intro z';refine Xh ?_;intro n1 n2;have n3: ¬ p=w.heap.size+1:=aG;have n4: ¬ w.heap.size+1=p:=aG;revert n1 n2 n3 n4;exact z'.1):p:=h ⟨k⟩
def kJ {p q:Prop} (k:q) (h:Zk q->p:=by intro z';have HE:=aL (show r=false by rw[hr];simp);revert HE;exact z'.1):p:=h ⟨k⟩
def ygd {p q:Prop} (k:q) (h:Zk q->p:=by intro z';obtain⟨K2,iD⟩:=bx ((Fx.tok D L tk.end').kind :Int);obtain⟨F2,kN⟩:=bx ((S.size-(Fx.tok D L tk.end').at'.length :Nat):Int);obtain⟨N2,iU⟩:=bx ((if(Fx.tok D L tk.end').kind =6 then(0:Int) else((S.size-(Fx.tok D L tk.end').end'.length :Nat):Int)):Int);obtain⟨T2,ir⟩:=bx (⟨(Fx.tok D L tk.end').text.toArray⟩:ByteArray);obtain⟨E2,jo⟩:=bx ((Fx.tok D L tk.end').exp :Int);revert K2 iD F2 kN N2 iU T2 ir E2 jo;exact z'.1):p:=h ⟨k⟩
def yc8 {p q:Prop} (k:q) (h:Zk q->p:=by intro z';have fb:=aU.size;obtain⟨X3,Y3,wX,F0,mL,mR,bY,zY⟩:=yc1 w3 [.string uX,.string ⟨#[D]⟩,.string wu,.string ⟨#[L]⟩,.string uZ,.string ⟨#[37]⟩,.string ww,.bool fi,.bool sp,.slice (some ⟨bz,0,none⟩) kz kz] [.string uW,.string ⟨#[D]⟩,.string tK,.string ⟨#[L]⟩,.string uY,.string ⟨#[37]⟩,.string tM,.bool fj,.bool sq,.int .i64 zz] rfl rfl rfl rfl;revert fb X3 Y3 wX F0 mL mR bY zY;exact z'.1):p:=h ⟨k⟩
def ybu {p q:Prop} (k:q) (h:Zk q->p:=by intro z';have f1:(R.toList==[84,82,85,69])=false:=ynr;have f2:(R.toList==[70,65,76,83,69])=false:=yu5;obtain⟨cr,gW⟩:=bx (Fx.mf tk);have fd:=fun W (hb:Below w.heap.size w W)=>yha (h.on hb) K N E F T tk bH aG tk.at' tk.end' hF hN bP;revert f1 f2 cr gW fd;exact z'.1):p:=h ⟨k⟩
def G6 {p q:Prop} (k:q) (h:Zk q->p:=by intro z';have aw:Below w.heap.size w (w.alloc (Obj.cells #[Value.bool n,Value.string s,Value.int IntKind.i64 x] 139)):=ek;revert aw;exact z'.1):p:=h ⟨k⟩
def Er {p q:Prop} (k:q) (h:Zk q->p:=by intro z';have ht:=fun w1 (hb:Below w.heap.size w w1)=>Lu (h.on hb);obtain⟨tk,aX⟩:=bx (Fx.tok D L l);revert ht tk aX;exact z'.1):p:=h ⟨k⟩
def EY {p q:Prop} (k:q) (h:Zk q->p:=by intro z';have hB:Below w.heap.size w (w.alloc (Obj.cells #[Value.slice a l.length c] 187)):=ek;revert hB;exact z'.1):p:=h ⟨k⟩
def yfp {p q:Prop} (k:q) (h:Zk q->p:=by intro z';obtain⟨Z,hZ⟩:=bx (w1.alloc (Obj.cells #[.int .i64 c,.int .i64 nR,.bool ac,.bool ar] 24));have bZ:Below w1.heap.size w1 Z:=ybW;have cZ:CF Z w1.heap.size [.int .i64 c,.int .i64 nR,.bool ac,.bool ar]:=ya5;rw[<-hZ];have BZ:=aL (bd.trans (bZ.mono aG));revert Z hZ bZ cZ BZ;exact z'.1):p:=h ⟨k⟩
def ya8 {p q:Prop} (k:q) (h:Zk q->p:=by 
 intro z';have fU: ∀ k,k≠p->W6.heap[k]? =Z5.heap[k]? :=fun k h1=>by rw[ej];exact tF _ _ _ _ h1
 have vm:W6.heap.size=Z5.heap.size:=yp6;have kP:Two p b w W6:=yqN;revert fU vm kP;exact z'.1):p:=h ⟨k⟩
def ycZ {p q:Prop} (k:q) (h:Zk q->p:=by 
 intro z';obtain⟨Z5,fV⟩:=bx (w5.alloc (Obj.cells #[.int .i64 K2,.int .i64 F2,.int .i64 N2,.string T2,.int .i64 E2] 77));have dr:Below w5.heap.size w5 Z5:=by rw[fV];exact ek
 revert Z5 fV dr;exact z'.1):p:=h ⟨k⟩
def LX {p q:Prop} (k:q) (h:Zk q->p:=by intro z';have aH:=Fx.ywH hk;have dP:=h.len;have mV:=h.hz;have cA:=Fx.SH D L l;obtain⟨tk,aX⟩:=bx (Fx.tok D L l);revert aH dP mV cA tk aX;exact z'.1):p:=h ⟨k⟩
def yk {p q:Prop} (k:q) (h:Zk q->p:=by intro z';(with_reducible refine(HA.out _ lI).mono ?_);exact z'.1):p:=h ⟨k⟩
def ydw {p q:Prop} (k:q) (h:Zk q->p:=by intro z';refine cV (iX.out _ dw.out) ?_;rintro e v4 ⟨rfl,cj,eO⟩;have aw:=dw.out;have ko:=aw.size;have ct:=(p8.out.on aw).of (cj.block (w.heap.size+1) n7 aG);have dg:=xr ct;have dy:=aL ct.putZero;obtain⟨o8,mC⟩:=dY cj eO;clear cj eO ct aw;revert v4 ko dg dy o8 mC;exact z'.1):p:=h ⟨k⟩
def TH {p q:Prop} (k:q) (h:Zk q->p:=by intro z';obtain⟨q,hq⟩:=bx (jY X 0 T T I false F 0 a1 0 a2 0 a3 false a4 false b1 0 b2 0 b3 false b4 false);rw[<-hq];revert q hq;exact z'.1):p:=h ⟨k⟩
def Zd {p q:Prop} (k:q) (h:Zk q->p:=by intro z';have HE:=aL (show r=false by rw[hr,eL hc];rfl);revert HE;exact z'.1):p:=h ⟨k⟩
def Ry {p q:Prop} (k:q) (h:Zk q->p:=by intro z';have HE:=aL (show r=false by rw[hr,eL hc]);revert HE;exact z'.1):p:=h ⟨k⟩
def yex {p q:Prop} (k:q) (h:Zk q->p:=by intro z';have eo:=WA (w:=w) (cs:=[.int .i64 K,.int .u64 X,.string TT,.bool I,.int .i64 F,.int .i64 a1,.int .i64 a2,.bool a3,.bool a4,.int .i64 b1,.int .i64 b2,.bool b3,.bool b4,.slice a m c]) aK;revert eo;exact z'.1):p:=h ⟨k⟩
def yiZ {p q:Prop} (k:q) (h:Zk q->p:=by 
 intro z';obtain⟨Z6,oO⟩:=bx (w6.alloc (Obj.cells #[.int .i64 K3,.int .i64 F3,.int .i64 N3,.string T3,.int .i64 E3] 77));have cU:Cs Z6 w6.heap.size [.int .i64 K3,.int .i64 F3,.int .i64 N3,.string T3,.int .i64 E3]:=by rw[oO];exact Cs.new w6 _ _
 have sY:Below Z5.heap.size Z5 Z6:=by rw[oO];exact gO.alloc gO.size _
 obtain⟨H6,IS⟩:=bx (w6.heap.size);have Kr:Z5.heap.size<=H6:=by have:=gO.size;omega
 rw[<-oO];revert Z6 oO cU sY H6 IS Kr;exact z'.1):p:=h ⟨k⟩
def xk {p q:Prop} (k:q) (h:Zk q->p:=by intro z';have y2:=d7.1.get 2 rfl;have z2:=d7.2 2;have yl:=d7.1.1;revert y2 z2 yl;exact z'.1):p:=h ⟨k⟩
def og {p q:Prop} (k:q) (h:Zk q->p:=by intro z';refine cY (HF.out _) ?_;exact z'.1):p:=h ⟨k⟩
def yO {p q:Prop} (k:q) (h:Zk q->p:=by intro z';have HE:=aL (show r=true by rw[hr,fv hc]);revert HE;exact z'.1):p:=h ⟨k⟩
def NR {p q:Prop} (k:q) (h:Zk q->p:=by intro z';have bd:Below w.heap.size w w1:=eI.trans (aw.mono cn);have mA:=lM.on aw;obtain⟨y0,y1,y2,yl⟩:=id mA;revert bd mA y0 y1 y2 yl;exact z'.1):p:=h ⟨k⟩
def yjO {p q:Prop} (k:q) (h:Zk q->p:=by 
 intro z';obtain⟨X,hX⟩:=bx (w.alloc (Obj.cells #[.int .i64 0,.int .i64 0,.int .i64 0,.string ⟨#[]⟩,.int .i64 0] 77));have bX:Below w.heap.size w X:=by rw[hX];exact ek
 have fX:CF X w.heap.size [.int .i64 0,.int .i64 0,.int .i64 0,.string ⟨#[]⟩,.int .i64 0]:=by rw[hX];exact CF.new w _ _
 have TX:=wD.out.on bX;rw[<-hX];obtain⟨⟨r0,e1,e3,xp,xg⟩, -,r1,r2, -⟩:=TX;have xn:w.heap.size<X.heap.size:=fX.1.1;obtain⟨FX,BX⟩:=dY fX bX;revert X hX bX fX r0 e1 e3 xp xg r1 r2 xn FX BX;exact z'.1):p:=h ⟨k⟩
def S3 {p q:Prop} (k:q) (h:Zk q->p:=by intro z';obtain⟨V2,cz⟩:=bx (Y.setCell ⟨g7,2,none⟩ (.int .i64 (en+(1+(N.size:Int)))));revert V2 cz;exact z'.1):p:=h ⟨k⟩
def Nf {p q:Prop} (k:q) (h:Zk q->p:=by intro z';obtain⟨V2,cz⟩:=bx (Y.setCell ⟨g7,2,none⟩ (.int .i64 (en+(2+(N.size:Int)))));revert V2 cz;exact z'.1):p:=h ⟨k⟩
def Ls {p q:Prop} (k:q) (h:Zk q->p:=by intro z';refine cp (H1.out _) ?_;exact z'.1):p:=h ⟨k⟩
def ykh {p q:Prop} (k:q) (h:Zk q->p:=by intro z';refine cV (dU.out _ _ _ _ _ mT.out) ?_;rintro e w7 ⟨X7,rfl,fm,jO,oy⟩;obtain⟨O6,jT⟩:=fm.isN;obtain⟨Z7,FZ,py,mB,Fd⟩:=Dd w7 jT;have u7:=jO.size;have mS:=aL ((mT.out.parse HS.out jO oy).on mB);have nH:=aL (fm.on mB);have nO:=aL py;have Aa:=aL (jO);have pm:=aL mB;have BF:=oy.lt;have qM:=aL ((rq.out.onl Aa.out aG).on pm.out);have DT:=aL ((kh.out.onl Aa.out aG).on pm.out);have y7:=fx nO.out;have y8:=fx DT.out;clear fm jO oy jT py mB;revert w7 X7 O6 Z7 FZ Fd u7 mS nH nO Aa pm BF qM DT y7 y8;exact z'.1):p:=h ⟨k⟩
def yge {p q:Prop} (k:q) (h:Zk q->p:=by intro z';refine cp (HP.out _) ?_;intro w1 aw;have bd:Below w.heap.size w w1:=et.out.trans (aw.mono (by simp only[i7];omega));have C0:=p9.out.on aw;have C1:=iP.out.on aw;have cH:=C1.1.1;revert w1 aw bd C0 C1 cH;exact z'.1):p:=h ⟨k⟩
def SU {p q:Prop} (k:q) (h:Zk q->p:=by intro z';rintro e w5 ⟨X5,rfl,nB,jB,GW⟩;obtain⟨Ys,sN⟩:=nB.isN;obtain⟨Z,Vj,F4,bZ,zZ⟩:=Dd w5 sN;revert w5 X5 nB jB GW Ys sN Z Vj F4 bZ zZ;exact z'.1):p:=h ⟨k⟩
def ylf {p q:Prop} (k:q) (h:Zk q->p:=by intro z';have HA:=aL (fun(W:World) (_:Below Z.heap.size Z W)=>(strconv_Atoi_ok N aG V hA W).mono fun e w' (he:_/\_)=>(show e= .returned (.tuple #[.int .i64 V,.nilIface])/\Below W.heap.size W w' from⟨he.1,by rcases he.2 with rfl|⟨t,rfl⟩<;>first|exact eN|exact Td _ _ _⟩));revert HA;exact z'.1):p:=h ⟨k⟩
def ycM {p q:Prop} (k:q) (h:Zk q->p:=by 
 intro z';have h':tmps[n]?.getD undef= .pointer (some ⟨B,0,none⟩):=nu;have jm:tmps[m]?.getD undef=b:=by simpa using hb
 revert h' jm;exact z'.1):p:=h ⟨k⟩
def ylo {p q:Prop} (k:q) (h:Zk q->p:=by intro z';obtain⟨K,hK⟩:=bx ((Fx.tok D L l).kind :Int);obtain⟨A,hA⟩:=bx ((S.size-(Fx.tok D L l).at'.length :Nat):Int);obtain⟨N,hN⟩:=bx ((if(Fx.tok D L l).kind =6 then(0:Int) else((S.size-(Fx.tok D L l).end'.length :Nat):Int)):Int);obtain⟨T,hT⟩:=bx (⟨(Fx.tok D L l).text.toArray⟩:ByteArray);obtain⟨X,hX⟩:=bx ((Fx.tok D L l).exp :Int);revert K hK A hA N hN T hT X hX;exact z'.1):p:=h ⟨k⟩
def yjR {p q:Prop} (k:q) (h:Zk q->p:=by 
 intro z';have oS:R3.data.toList=Ce.eY u.text:=by rw[CH]
 have g1:(R3.toList==[84,82,85,69])=decide (Ce.eY u.text=Fx.qZ):=by rw[vq,oS];rfl
 have g2:(R3.toList==[70,65,76,83,69])=decide (Ce.eY u.text=Fx.so):=by rw[vq,oS];rfl
 have iQ:=(Fx.SH D L (Fx.tok D L tk.end').end').trans iM.suf;rw[<-hu] at iQ;revert oS g1 g2 iQ;exact z'.1):p:=h ⟨k⟩
def yjC {p q:Prop} (k:q) (h:Zk q->p:=by intro z';have c1:=FX.out.on ix;have bw:=BX.out.trans (ix.mono BX.out.size);obtain⟨⟨t0,t1,t3,tp,tg⟩,te,u1,u2, -⟩:=wD.out.on bw;have x0:=c1.1.get 0 rfl;have x1:=c1.1.get 1 rfl;have x2:=c1.1.get 2 rfl;have x3:=c1.1.get 3 rfl;have x4:=c1.1.get 4 rfl;have xl:=c1.1.1;have f0:=c1.2 0;have f1:=c1.2 1;have f2:=c1.2 2;have f3:=c1.2 3;have f4:=c1.2 4;have n1: ¬ w.heap.size=p:=aG;have n2: ¬ w.heap.size=g:=aG;have n3: ¬ p=w.heap.size:=aG;have n4: ¬ g=w.heap.size:=aG;obtain⟨C1,BW,TE⟩:=iJ c1 bw te;revert c1 bw t0 t1 t3 tp tg te u1 u2 x0 x1 x2 x3 x4 xl f0 f1 f2 f3 f4 n1 n2 n3 n4 C1 BW TE;exact z'.1):p:=h ⟨k⟩
def W9 {p q:Prop} (k:q) (h:Zk q->p:=by intro z';have x0:=cZ.1.get 0 rfl;have x1:=cZ.1.get 1 rfl;have x2:=cZ.1.get 2 rfl;have x3:=cZ.1.get 3 rfl;revert x0 x1 x2 x3;exact z'.1):p:=h ⟨k⟩
def yhk {p q:Prop} (k:q) (h:Zk q->p:=by 
 intro z';have dW:=h7.out.on ae;have dV:=h6.out.on ae;obtain⟨Y,hY⟩:=bx (w3.setCell ⟨g7,4,none⟩ (.int .i64 (px+ -V)));have d7:CF Y g7 [.int .i64 1,.int .i64 at',.int .i64 en,.string TX,.int .i64 (px+ -V)]:=by exact ya6
 revert dW dV Y hY d7;exact z'.1):p:=h ⟨k⟩
def ykg {p q:Prop} (k:q) (h:Zk q->p:=by 
 intro z';have dW:=h7.out.on ae;have dV:=h6.out.on ae;obtain⟨Y,hY⟩:=bx (w3.setCell ⟨g7,4,none⟩ (.int .i64 (px+V)));have d7:CF Y g7 [.int .i64 1,.int .i64 at',.int .i64 en,.string TX,.int .i64 (px+V)]:=by exact ya6
 revert dW dV Y hY d7;exact z'.1):p:=h ⟨k⟩
def yhW {p q:Prop} (k:q) (h:Zk q->p:=by intro z';have p2:=dU.out.mem.get 2 rfl;have pf:=dU.out.mem.frozen 2;have pz:=dU.out.mem.lt;have tD:=dU.out.past (N:=N) lP.out (by rw[HN.out,bv n6]);have ct:Nd (Z2.setCell ⟨p,2,none⟩ (.int .i64 N)) w.heap.size znv:=gc.out.of (tF _ _ _ _ (by show ¬ w.heap.size=p;omega));revert p2 pf pz tD ct;exact z'.1):p:=h ⟨k⟩
def Oj {p q:Prop} (k:q) (h:Zk q->p:=by intro z';(with_reducible refine(HS.out _ dt).mono ?_);rintro e w1 ⟨rfl,ab⟩;revert w1 ab;exact z'.1):p:=h ⟨k⟩
def V3 {p q:Prop} (k:q) (h:Zk q->p:=by intro z';have HE:=aL (show r=false by rw[hr,eL gP];simp);obtain⟨d0,d1⟩:=yvF gP;revert HE d0 d1;exact z'.1):p:=h ⟨k⟩
def yil {p q:Prop} (k:q) (h:Zk q->p:=by intro z';have LL:Hid (CF (w.alloc (Obj.cells #[.int .u64 0,.int .u64 0,.int .i64 0,.bool false] 97)) w.heap.size pw0):=aL (CF.new w pw0 _);have et:Hid (Below w.heap.size w (w.alloc (Obj.cells #[.int .u64 0,.int .u64 0,.int .i64 0,.bool false] 97))):=aL (ek);revert LL et;exact z'.1):p:=h ⟨k⟩
def ycs {p q:Prop} (k:q) (h:Zk q->p:=by intro z';have hF: ∀ w',Below w.heap.size w w'->Onl b w w'/\Rdr w' b:=fun w' h=>⟨hR.onl h,hR.on h⟩;revert hF;exact z'.1):p:=h ⟨k⟩
def ykT {p q:Prop} (k:q) (h:Zk q->p:=by 
 intro z';have cH:w1.heap.size<=w2.heap.size:=by simpa using(dE (ls _) (by simpa using eK))
 have bd:Below w.heap.size w1 w2:=yY (eN.alloc qN _) (hb2.mono pp);have aP:Below w.heap.size w1 w3:=yY (bd.alloc aG _) (aU.mono pp);revert cH bd aP;exact z'.1):p:=h ⟨k⟩
def ykE {p q:Prop} (k:q) (h:Zk q->p:=by intro z';have bQ:=hW.rd.lt;have mu:Below W.heap.size W (((W.alloc (Obj.cells #[.pointer (some ⟨v,0,none⟩)] 67)).alloc (Obj.cells #[.int .u64 x] 22)).alloc (Obj.cells #[.bool false,.string ⟨#[]⟩,.int .i64 0] 139)):=((ek).alloc cn _).alloc pp _;revert bQ mu;exact z'.1):p:=h ⟨k⟩
def yju {p q:Prop} (k:q) (h:Zk q->p:=by intro z';obtain⟨uK,rx⟩:=dY q1 q2;have Ak:Hid (C2 (w1.alloc (.cells #[.int .u64 0,.int .u64 0] 95)) w1.heap.size 0 0):=aL (C2.new0 rfl);have et:Hid (Below w1.heap.size w1 (w1.alloc (.cells #[.int .u64 0,.int .u64 0] 95))):=aL ((oA w1.heap.size w1).alloc cm _);revert uK rx Ak et;exact z'.1):p:=h ⟨k⟩
def yiw {p q:Prop} (k:q) (h:Zk q->p:=by intro z';have y3:W6.cell? ⟨H2,3,none⟩=some (.string T):=(sf (a:=⟨H2,3,none⟩) ((fU H2 aG).trans (E4.out H2 aG aG aG))).trans z3;have lF:=fx (mU.out.of (fU B5 aG));have dS:=W4 iP.out W6;obtain⟨W7,iq⟩:=bx (W6.alloc (Obj.cells cs.toArray 27));revert y3 lF dS W7 iq;exact z'.1):p:=h ⟨k⟩
def yvg {p q:Prop} (k:q) (h:Zk q->p:=by intro z';refine cp (HB.out _) ?_;exact z'.1):p:=h ⟨k⟩
def ydT {p q:Prop} (k:q) (h:Zk q->p:=by intro z';have q0:=gj.1.get 0 rfl;have q1:=gj.1.get 1 rfl;have q2:=gj.1.get 2 rfl;have q3:=gj.1.get 3 rfl;have z0:=gj.2 0;have z1:=gj.2 1;have z2:=gj.2 2;have z3:=gj.2 3;have ql:=gj.1.1;revert q0 q1 q2 q3 z0 z1 z2 z3 ql;exact z'.1):p:=h ⟨k⟩
def yey {p q:Prop} (k:q) (h:Zk q->p:=by 
 intro z';have h2:=Dc.yff s.data.toList;have h3:(⟨(Dc.core s.data.toList).toArray⟩:ByteArray).size <=9223372036854775807:=by rw[nm];omega
 revert h2 h3;exact z'.1):p:=h ⟨k⟩
def yqk {p q:Prop} (k:q) (h:Zk q->p:=by intro z';rw[<-hK,<-hF,<-hN,<-ce,<-dB];have n6: ¬ tk.kind=6:=aG;revert n6;exact z'.1):p:=h ⟨k⟩
def yg {p q:Prop} (k:q) (h:Zk q->p:=by intro z';have HE:=aL (show r=false by rw[hr];rfl);revert HE;exact z'.1):p:=h ⟨k⟩
def yii {p:Prop} (h:p:=by rw[bv hp,Lib.itoa,bv (show ¬ ((l.length:Int)+x)-1<0 by omega)];exact jx 43 (((l.length:Int)+x)-1).toNat (.inl rfl) aG (by rw[bv bL];omega)):p:=h
def ykb {p:Prop} (h:p:=by rw[bT hp,Lib.itoa,bv (show ¬ 1-((l.length:Int)+x)<0 by omega)];exact jx 45 (1-((l.length:Int)+x)).toNat (.inr rfl) aG (by rw[bT rfl];omega)):p:=h
def ycD {p q:Prop} (k:q) (h:Zk q->p:=by intro z';have HN:=aL (show(s.data.toList.take (k+1)).all Fx.ps=true by rw[fz,pM];simp;omega);revert HN;exact z'.1):p:=h ⟨k⟩
def Mg {p q:Prop} (k:q) (h:Zk q->p:=by intro z';(with_reducible refine(HN.out _ dt).mono ?_);exact z'.1):p:=h ⟨k⟩
def yhO {p q:Prop} (k:q) (h:Zk q->p:=by 
 intro z';obtain⟨Z5,fV⟩:=bx (nput (w5.alloc jg) w5.heap.size X1);have rg:Nd Z5 w5.heap.size X1:=by rw[fV];exact(Nd.zero w5).put iP.out
 have kc:Below w5.heap.size w5 Z5:=by rw[fV];exact zg cm (ek)
 unfold jg at fV;rw[<-fV];obtain⟨B5,jp⟩:=bx (w5.heap.size);revert Z5 fV rg kc B5 jp;exact z'.1):p:=h ⟨k⟩
def ylR {p q:Prop} (k:q) (h:Zk q->p:=by 
 intro z';have c7:CF V2 g7 [.int .i64 1,.int .i64 at',.int .i64 (en+(1+(N.size:Int))),.string TX,.int .i64 (px+ -1000000000)]:=by exact GQ
 revert c7;exact z'.1):p:=h ⟨k⟩
def yml {p q:Prop} (k:q) (h:Zk q->p:=by 
 intro z';have c7:CF V2 g7 [.int .i64 1,.int .i64 at',.int .i64 (en+(2+(N.size:Int))),.string TX,.int .i64 (px+ -1000000000)]:=by exact GQ
 revert c7;exact z'.1):p:=h ⟨k⟩
def yly {p q:Prop} (k:q) (h:Zk q->p:=by 
 intro z';have c7:CF V2 g7 [.int .i64 1,.int .i64 at',.int .i64 (en+(1+(N.size:Int))),.string TX,.int .i64 (px+1000000000)]:=by exact GQ
 revert c7;exact z'.1):p:=h ⟨k⟩
def yjA {p q:Prop} (k:q) (h:Zk q->p:=by 
 intro z';have c7:CF V2 g7 [.int .i64 1,.int .i64 at',.int .i64 (en+(2+(N.size:Int))),.string TX,.int .i64 (px+1000000000)]:=by exact GQ
 revert c7;exact z'.1):p:=h ⟨k⟩
def ylN {p q:Prop} (k:q) (h:Zk q->p:=by intro z';refine cp (DY.out _ dw.out) ?_;intro v2 jX;have ki:=aL (dw.out.trans (jX.mono dw.out.size));have eF:=aL (bG.out.on jX);have u0:=eF.out.get 0 rfl;have u1:=eF.out.get 1 rfl;have u2:=eF.out.get 2 rfl;have u3:=eF.out.get 3 rfl;have u4:=eF.out.get 4 rfl;have ul:=eF.out.1;clear jX;revert v2 ki eF u0 u1 u2 u3 u4 ul;exact z'.1):p:=h ⟨k⟩
def yeo {p q:Prop} (k:q) (h:Zk q->p:=by intro z';have H1:=aL (fun w1=>yqU hi lo H D hh hl v1 v2 w1);obtain⟨DB,Ja⟩:=dY v4 v5;have c0:=HC.out.1.get 0 rfl;have c1:=HC.out.1.get 1 rfl;revert H1 DB Ja c0 c1;exact z'.1):p:=h ⟨k⟩
def yjZ {p q:Prop} (k:q) (h:Zk q->p:=by intro z';have eX:X= .agg #[.int .i64 rU,.int .u64 (rR:Nat),.string rT,.bool rV,.int .i64 rW,.int .i64 rQ,.int .i64 rP,.bool rO,.bool rN,.int .i64 rM,.int .i64 rL,.bool rK,.bool rJ,.slice rH rI rG]:=e1.trans pC;revert eX;exact z'.1):p:=h ⟨k⟩
def yjP {p q:Prop} (k:q) (h:Zk q->p:=by intro z';have qX:X= .agg #[.int .i64 rU,.int .u64 (rR:Nat),.string rT,.bool rV,.int .i64 rW,.int .i64 rQ,.int .i64 rP,.bool rO,.bool rN,.int .i64 rM,.int .i64 rL,.bool rK,.bool rJ,.slice rH rI rG]:=Dr.trans eX;revert qX;exact z'.1):p:=h ⟨k⟩
def yfO {p q:Prop} (k:q) (h:Zk q->p:=by 
 intro z';have e:d*(v1*B+v2)=d*v1*B+d*v2:=by rw[lW,fB]
 have e2:top*B=d*v1*B+r*B:=by rw[<-hd,iW]
 revert e e2;exact z'.1):p:=h ⟨k⟩
def ybk {p q:Prop} (k:q) (h:Zk q->p:=by intro z';have y0:=HS.1.get 0 rfl;have y1:=HS.1.get 1 rfl;have y2:=HS.1.get 2 rfl;have y3:=HS.1.get 3 rfl;revert y0 y1 y2 y3;exact z'.1):p:=h ⟨k⟩
def ylD {p q:Prop} (k:q) (h:Zk q->p:=by intro z';have h1:s.toList.isEmpty=false:=oj h;have hc:=yiU s w hs;rw[(Na.yl1 _).2 hd] at hc;have HC:=aL (show Calls prog 99 #[.string s,.string ⟨#[48,49,50,51,52,53,54,55,56,57]⟩] w (RetB (.string ⟨#[]⟩) w) from hc);revert h1 hc HC;exact z'.1):p:=h ⟨k⟩
def yU {p q:Prop} (k:q) (h:Zk q->p:=by intro z';refine cp (HT.out _ B0.out) ?_;exact z'.1):p:=h ⟨k⟩
def yiH {p q:Prop} (k:q) (h:Zk q->p:=by intro z';obtain⟨r',oq⟩:=bx (r+v1);have q':(d:Int)-1=(d':Int):=aG;have dH:(r:Int)+(v1:Int)=(r':Int):=aG;have NU:1<=d:=aG;have MS:r'<8589934592:=aG;have uM:=aL (show d'*v1+r'=top/\X / VV<=d' by rw[show d'=d-1 by omega,oq];exact⟨sK.2.2,sK.2.1⟩);revert r' oq q' dH NU MS uM;exact z'.1):p:=h ⟨k⟩
def ygE {p q:Prop} (k:q) (h:Zk q->p:=by intro z';have e1:=vq s [61];have e2:=vq s [60,62];have e3:=vq s [60];have e4:=vq s [60,61];have e5:=vq s [62];have e6:=vq s [62,61];have e7:=vq s [38];have e8:=vq s [43];have e9:=vq s [45];have gb:=vq s [42];have ia:=vq s [47];have fP:=vq s [94];obtain⟨r,hr⟩:=bx (Fx.eT s.data.toList);rw[<-hr];unfold Fx.eT at hr;revert e1 e2 e3 e4 e5 e6 e7 e8 e9 gb ia fP r hr;exact z'.1):p:=h ⟨k⟩
def yiG {p q:Prop} (k:q) (h:Zk q->p:=by intro z';have eA:cc<4294967296:=eR HC.out (dE (hJ bL (show s<=32 by omega)) bL);have mQ:=aL (Na.yd3 o q off k cc 0 s dq bI.out (Na.XK q k aG));have e0:cc+0*2^s=cc:=aG;revert eA mQ e0;exact z'.1):p:=h ⟨k⟩
def yg4 {p q:Prop} (k:q) (h:Zk q->p:=by intro z';obtain⟨K3,tH⟩:=bx (u.kind:Int);obtain⟨F3,qv⟩:=bx ((S.size-u.at'.length:Nat):Int);obtain⟨N3,kr⟩:=bx ((if u.kind=6 then(0:Int) else((S.size-u.end'.length:Nat):Int)):Int);obtain⟨T3,tu⟩:=bx (⟨u.text.toArray⟩:ByteArray);obtain⟨E3,wi⟩:=bx (u.exp:Int);revert K3 tH F3 qv N3 kr T3 tu E3 wi;exact z'.1):p:=h ⟨k⟩
def ybo {p q:Prop} (k:q) (h:Zk q->p:=by intro z';have fh:=fun(W:World) (hW:Below w.heap.size w W)=>yrP W (hv.on hW) (hs.on hW);revert fh;exact z'.1):p:=h ⟨k⟩
def yi2 {p q:Prop} (k:q) (h:Zk q->p:=by 
 intro z';have qp:off+k<O.length:=by have:=qI.out;omega
 have dq:off+k<o.length:=by rw[di.out];exact qp
 have co:=cX.out.cell (off+k) dq;have fo:=cX.out.frozen (off+k);have gR:O[off+k]'qp<4294967296:=mE.out _ (pK qp);revert qp dq co fo gR;exact z'.1):p:=h ⟨k⟩
def yfT {p q:Prop} (k:q) (h:Zk q->p:=by intro z';have tC:=o7.out.on od.out;have im:Below Z4.heap.size Z4 (Z4.alloc (Obj.cells #[.string ⟨#[58]⟩] 9)):=ek;revert tC im;exact z'.1):p:=h ⟨k⟩
def yfs {p q:Prop} (k:q) (h:Zk q->p:=by intro z';have bd:Below w.heap.size w w1:=hB.grown bB zE (fun k e=>by cases e);have hK:=aL (Blk.made fS);have IR:=aL bd;revert bd hK IR;exact z'.1):p:=h ⟨k⟩
def yc6 {p q:Prop} (k:q) (h:Zk q->p:=by intro z';(with_reducible refine(yqL _ s.data.toList _ cn (by simpa using hs)).mono ?_);exact z'.1):p:=h ⟨k⟩
def JP {p q:Prop} (k:q) (h:Zk q->p:=by intro z';have HE:=aL (show v=false by rw[hv];simp;omega);revert HE;exact z'.1):p:=h ⟨k⟩
def Xz {p q:Prop} (k:q) (h:Zk q->p:=by intro z';intro w1 ab;obtain⟨ao,ay,az,af⟩:=g9 (wr) ab;(try simp only[fO,gz,fY,gt] at af);revert w1 ab ao ay az af;exact z'.1):p:=h ⟨k⟩
def yl5 {p q:Prop} (k:q) (h:Zk q->p:=by intro z';have HC:=yhs a c l b d m _ (h.on hB) (h'.on hB) hn hm;have iA: ∃ r:Int,r=Na.cmp l m/\decide (r<0)=false:=⟨_,rfl,eL (by rw[Na.cmp,bv mp];split<;>omega)⟩;obtain⟨r0,jf,dH⟩:=iA;revert HC r0 jf dH;exact z'.1):p:=h ⟨k⟩
def ykN {p q:Prop} (k:q) (h:Zk q->p:=by intro z';have iM:Ps Z5 p g b D L S (Fx.tok D L tk.end').end' op:=nL.out;have uI:=Pv.out;have r9:=Lu iM;have r8:=Fx.ywC D L (Fx.tok D L tk.end').end';have CS:=iM.len;have mV:=iM.hz;obtain⟨u,hu⟩:=bx (Fx.tok D L (Fx.tok D L tk.end').end');revert iM uI r9 r8 CS mV u hu;exact z'.1):p:=h ⟨k⟩
def yhK {p q:Prop} (k:q) (h:Zk q->p:=by intro z';have uo:=h.on hb;have hO:Onl p w1 (w1.setCell ⟨p,2,none⟩ (.int .i64 N)):=(Onl.refl p w1).setCell 2 _;have ew:Onl p w (w1.setCell ⟨p,2,none⟩ (.int .i64 N)):=(Onl.of pl hb).trans hO;revert uo hO ew;exact z'.1):p:=h ⟨k⟩
def yjX {p q:Prop} (k:q) (h:Zk q->p:=by 
 intro z';have H1:=aL (PT a c l w h aG);obtain⟨N,hN⟩:=bx (Na.val l);have ei:Na.cut l=Na.cl N:=by rw[Na.cut,hN]
 have dP:(Na.cl N).length <=l.length:=by have:=(Na.yC h.ok).1;rw[Na.rt,ei] at this;exact this
 revert H1 N hN ei dP;exact z'.1):p:=h ⟨k⟩
def ygp {p q:Prop} (k:q) (h:Zk q->p:=by intro z';have H2:=aL (sU a c l _ (h.on hB) hn);have H3:=aL (sU b d m _ (h'.on hB) hm);obtain⟨eA,gH⟩:=Na.yh5 hbig;have S1:=h.cut;have S2:=h'.cut;have V1:=aL (Na.tA (a:=l));have V2:=aL (Na.tA (a:=m));obtain⟨q,hq⟩:=bx (Na.cut l);obtain⟨r,hr⟩:=bx (Na.cut m);revert H2 H3 eA gH S1 S2 V1 V2 q hq r hr;exact z'.1):p:=h ⟨k⟩
def KS {p q:Prop} (k:q) (h:Zk q->p:=by 
 intro z';have dK:R.data.toList=Ce.eY tk.text:=by rw[hR]
 revert dK;exact z'.1):p:=h ⟨k⟩
def yht {p q:Prop} (k:q) (h:Zk q->p:=by 
 intro z';have hv:r=⟨#[]⟩:=by rw[HR.out];unfold Fx.jq;simp only[bv h1,bv h2,bv h3,bv h4,bv h5,bv h6,bv h7,bv h8]
 have HV:=aL hv;clear hv;revert HV;exact z'.1):p:=h ⟨k⟩
def xu {p q:Prop} (k:q) (h:Zk q->p:=by intro z';refine cp (H2.out _) ?_;exact z'.1):p:=h ⟨k⟩
def qT {p q:Prop} (k:q) (h:Zk q->p:=by intro z';refine Ls ?_;refine pt ?_;intro w1 ab ao ay az af ai am al aj ag ap;revert w1 ab ao ay az af ai am al aj ag ap;exact z'.1):p:=h ⟨k⟩
def zC {p q:Prop} (k:q) (h:Zk q->p:=by intro z';refine pt ?_;intro w2 aa aI aO aN ah aA aF aE aD au aJ;obtain⟨bA,bE,bD,bC,aZ,bW⟩:=own6 aa (w.heap.size+1);revert w2 aa aI aO aN ah aA aF aE aD au aJ bA bE bD bC aZ bW;exact z'.1):p:=h ⟨k⟩
def rE {p q:Prop} (k:q) (h:Zk q->p:=by intro z';refine yvg ?_;refine pt ?_;intro w9 ax bU bS bR aM bt bo bn bm bj bu;revert w9 ax bU bS bR aM bt bo bn bm bj bu;exact z'.1):p:=h ⟨k⟩
def G2 {p q:Prop} (k:q) (h:Zk q->p:=by intro z';unfold tokV tkv;refine Ah ?_;intro K hK F hF N hN T ce E dB;refine yqk ?_;intro n6;revert K hK F hF N hN T ce E dB n6;exact z'.1):p:=h ⟨k⟩
def IQ {p q:Prop} (k:q) (h:Zk q->p:=by intro z';have bH:T.data.toList=tk.text:=XE;refine ymR ?_;intro gY bP dQ R hR;revert bH gY bP dQ R hR;exact z'.1):p:=h ⟨k⟩
def Rx {p q:Prop} (k:q) (h:Zk q->p:=by intro z';refine Zd ?_;intro HE;have i8:((m:Int)==0)=false:=nY;revert HE i8;exact z'.1):p:=h ⟨k⟩
def N5 {p q:Prop} (k:q) (h:Zk q->p:=by intro z';refine Ry ?_;intro HE;have i8:((m:Int)==0)=false:=nY;revert HE i8;exact z'.1):p:=h ⟨k⟩
def yiS {p q:Prop} (k:q) (h:Zk q->p:=by intro z';refine cV (Jv.out _ _ _ _ _ pV.out) ?_;refine SU ?_;intro w6 X6 kK eU mI O7 jU Z6 J4 r5 js LR;have At:=eU.size;have mT:=aL ((pV.out.parse HS.out eU mI).on js);have rq:=aL (kK.on js);have kh:=aL r5;have tV:=aL (eU);have D5:=aL js;have BG:=mI.lt;have y6:=fx kh.out;clear kK eU mI jU r5 js;revert w6 X6 O7 Z6 J4 LR At mT rq kh tV D5 BG y6;exact z'.1):p:=h ⟨k⟩
end Go.Proofs.YtilbpmimoijfhaaGreatDoor
