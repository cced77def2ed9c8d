import Derived.Test.YtilbpmimoijfhaaGreatDoorY3
namespace Go.Proofs.YtilbpmimoijfhaaGreatDoor
set_option linter.all false
set_option maxRecDepth 100000
set_option maxHeartbeats 16000000
open Go.RowKit Go.Proofs.Tryz
def ydk (s:ByteArray) (w:World):Calls prog 208 #[.string s,.string ⟨#[48]⟩] w (Ret0 (.string ⟨(Dc.lead s.data.toList).toArray⟩) w):=
 (strings_TrimLeft_one s 48 bL w).mono fun _ _ h=>⟨h.1,h.2.symm⟩
def yqL (s:ByteArray) (l:Dc.Bs) (w:World) (hl:s.data.toList=Dc.lead l) (b:l.length<=1000000000):Calls prog 209 #[.string s,.string ⟨#[48]⟩] w (Ret0 (.string ⟨(Dc.core l).toArray⟩) w):=
 (strings_TrimRight_one s 48 bL w (by have a:=dZ List.length hl;have c:=Dc.Tf l;rw[dN] at a;omega)).mono fun _ _ h=>⟨by rw[h.1,hl];rfl,h.2.symm⟩
def ys4 (n:Bool) (s:ByteArray) (x:Int) (w:World) (hs:s.size<=1000000000) (hx: -1099511627776<=x/\x<1099511627776):
 Calls prog 158 #[.bool n,.string s,.int .i64 x] w (RetB (Dc.mk n s.data.toList x).val w):=by
 have d:(Dc.lead s.data.toList).length <=1000000000:=ygi;refine yey ?_;intro h2 h3;obtain⟨b,c⟩:=hx;go_enter func158,ntmps158
 go_wp2_with (first|(go_at_call 143;refine cp (yaz _ _) ?_;refine pt ?_;intro a y r o m u ai am al aj ag q)|(go_at_call 208;refine cY (ydk _ _) ?_)|(go_at_call 209;refine yc6 ?_;rintro e w' ⟨rfl,rfl⟩)|(go_at_call 112;refine cp (EE _ ⟨(Dc.core s.data.toList).toArray⟩ _ _ h3) ?_;refine pt ?_;intro w3 t j f g l cT cS cP cO cN i))
 ·have h:(!Dc.dD s.data.toList)=true:=lI;exact yft
 ·have h0:(!Dc.dD s.data.toList)=false:=lI;exact yfR
 ·have h0:(!Dc.dD s.data.toList)=false:=lI;have h:List.isEmpty (Dc.core s.data.toList)=false:=lI;have h2:(!Dc.right (Dc.core s.data.toList) (x+(((Dc.lead s.data.toList).length :Int)-(Dc.core s.data.toList).length)))=true:=lI;(refine eB (v:=Dc.Res.val ⟨false,[],0,2⟩) yd1 rfl (RetB.of (by rw[Dc.R7 (by simpa using h0) nu (by rw[Dc.ycu];simpa using h2)]) dt))
 ·have h0:(!Dc.dD s.data.toList)=false:=lI;have h:List.isEmpty (Dc.core s.data.toList)=false:=lI;have h2:(!Dc.right (Dc.core s.data.toList) (x+(((Dc.lead s.data.toList).length :Int)-(Dc.core s.data.toList).length)))=false:=lI;(refine eB (v:=Dc.Res.val ⟨n,Dc.core s.data.toList,x+(((Dc.lead s.data.toList).length :Int)-(Dc.core s.data.toList).length),0⟩) yd1 rfl (RetB.of (by rw[Dc.Kd (by simpa using h0) nu (by rw[Dc.ycu];simpa using h2),Dc.ycu]) dt))
def yo6 (n:Bool) (s:ByteArray) (x:Int) (w:World) (hs:s.size<=1000000000) (hx: -9223372036854775808<=x/\x<=9223372036854775807) (a:x < -1099511627776):
 Calls prog 158 #[.bool n,.string s,.int .i64 x] w (RetB (Dc.mk n s.data.toList x).val w):=by
 have g:(Dc.lead s.data.toList).length <=1000000000:=ygi;refine yey ?_;intro h2 h3;obtain⟨d,f⟩:=hx;have hn:Dc.core s.data.toList≠[]->_:=fun b=>Dc.yhQ (by simpa using hs) b (.inl a);have HN:=aL hn;clear hn;go_enter func158,ntmps158
 go_wp2_with (first|(go_at_call 143;refine cp (yaz _ _) ?_;refine pt ?_;intro c A u r q z ai am al aj ag t)|(go_at_call 208;refine cY (ydk _ _) ?_)|(go_at_call 209;refine yc6 ?_;rintro e w' ⟨rfl,rfl⟩)|(go_at_call 112;refine cp (EE _ ⟨(Dc.core s.data.toList).toArray⟩ _ _ h3) ?_;refine pt ?_;intro w3 y m i j o cT cS cP cO cN l))
 ·have h:(!Dc.dD s.data.toList)=true:=lI;exact yft
 ·have h0:(!Dc.dD s.data.toList)=false:=lI;exact yfR
 ·have h0:(!Dc.dD s.data.toList)=false:=lI;exact yk0
 ·have h:List.isEmpty (Dc.core s.data.toList)=false:=lI;exact yj3
def yol (n:Bool) (s:ByteArray) (x:Int) (w:World) (hs:s.size<=1000000000) (hx: -9223372036854775808<=x/\x<=9223372036854775807) (a:1099511627776<=x):
 Calls prog 158 #[.bool n,.string s,.int .i64 x] w (RetB (Dc.mk n s.data.toList x).val w):=by
 have g:(Dc.lead s.data.toList).length <=1000000000:=ygi;refine yey ?_;intro h2 h3;obtain⟨d,f⟩:=hx;have hn:Dc.core s.data.toList≠[]->_:=fun b=>Dc.yhQ (by simpa using hs) b (.inr a);have HN:=aL hn;clear hn;go_enter func158,ntmps158
 go_wp2_with (first|(go_at_call 143;refine cp (yaz _ _) ?_;refine pt ?_;intro c A u r q z ai am al aj ag t)|(go_at_call 208;refine cY (ydk _ _) ?_)|(go_at_call 209;refine yc6 ?_;rintro e w' ⟨rfl,rfl⟩)|(go_at_call 112;refine cp (EE _ ⟨(Dc.core s.data.toList).toArray⟩ _ _ h3) ?_;refine pt ?_;intro w3 y m i j o cT cS cP cO cN l))
 ·have h:(!Dc.dD s.data.toList)=true:=lI;exact yft
 ·have h0:(!Dc.dD s.data.toList)=false:=lI;exact yfR
 ·have h0:(!Dc.dD s.data.toList)=false:=lI;exact yk0
 ·have h:List.isEmpty (Dc.core s.data.toList)=false:=lI;exact yj3
def yaN (n:Bool) (s:ByteArray) (x:Int) (w:World) (a:s.size<=1000000000) (hx: -9223372036854775808<=x/\x<=9223372036854775807):
 Calls prog 158 #[.bool n,.string s,.int .i64 x] w (RetB (Dc.mk n s.data.toList x).val w):=by
 by_cases h:x < -1099511627776
 ·exact yo6 n s x w a hx h
 ·by_cases h':x<1099511627776
  ·exact ys4 n s x w a ⟨by omega,h'⟩
  ·exact yol n s x w a hx aG
end Go.Proofs.YtilbpmimoijfhaaGreatDoor
