/- Own work,plain: repairing a text;it is as it was just where it is valid. -/
import Derived.Test.YtcfecmeocimclaaGreatDoorYAA0
import Derived.Lib.MapLaws
import Derived.Lib.ValidLaws
import Derived.Lib.TrimUEq
import Derived.Laws.Runes
import Derived.Laws.RangeAny
import Derived.Test.YtcfecmeocimclaaGreatDoorYAGB
namespace Go.Proofs.YtcfecmeocimclaaGreatDoor
set_option linter.unusedSimpArgs false
set_option maxRecDepth 100000
open Go.Lib
def encL (r:Int):List UInt8:=(Utf8.encode r).data.toList
theorem ztz (r:Int):(Utf8.encode r).data.toList=encL r:=rfl
theorem zhn (r:Int):encL r=encodeRune r:=by
 unfold encL Utf8.encode encodeRune
 by_cases hv:Utf8.valid r=true
 ·have hv':(0<=r/\r < 55296)\/(57344<=r/\r<=1114111):=by simpa [Utf8.valid] using hv
  obtain ⟨n,rfl⟩:=Int.eq_ofNat_of_zero_le (show 0<=r by omega)
  simp only [hv,if_true,Int.toNat_natCast];have hb:∀ z:Int,∀ m:Nat,z=m->z.toNat.toUInt8=UInt8.ofNat m:=fun z m h=>by subst h;simp
  by_cases h1:n < 128
  ·rw [if_pos h1,encodeRuneZ_one (by omega) (by omega)];simp
  rw [if_neg h1]
  by_cases h2:n < 2048
  ·rw [if_pos h2,encodeRuneZ_two (by omega) (by omega)]
   simp only [List.map_cons,List.map_nil];rw [hb _ (192 + n / 64) (by omega),hb _ (128 + n % 64) (by omega)]
  rw [if_neg h2]
  by_cases h3:n < 65536
  ·rw [if_pos h3,encodeRuneZ_three (by omega)]
   simp only [List.map_cons,List.map_nil];rw [hb _ (224 + n / 4096) (by omega),hb _ (128 + n / 64 % 64) (by omega),hb _ (128 + n % 64) (by omega)]
  rw [if_neg h3,encodeRuneZ_four (by omega) (by omega)]
  simp only [List.map_cons,List.map_nil];rw [hb _ (240 + n / 262144) (by omega),hb _ (128 + n / 4096 % 64) (by omega),hb _ (128 + n / 64 % 64) (by omega),hb _ (128 + n % 64) (by omega)]
 ·have hv':r < 0\/(55296<=r/\r<=57343)\/1114111 < r:=by
   simp [Utf8.valid] at hv;omega
  rw [encodeRuneZ_bad hv'];simp [hv,Utf8.runeError]
def zoh:Nat->List UInt8->List UInt8
 | 0,_=>[]
 | n + 1,l=>if l=[] then [] else encL (decodeL l).1++zoh n (l.drop (decodeL l).2)
def zah (l:List UInt8):List UInt8:=zoh l.length l
def zcn (s:ByteArray):ByteArray:=⟨(zah s.data.toList).toArray⟩
theorem zdx (l:List UInt8) (hne:l ≠ []):1<=(decodeL l).2:=by
 have h:=decodeL_drop ⟨l.toArray⟩ 0;simp only [lDZ] at h;rw [h];have hpos:0 < (ByteArray.mk l.toArray).size:=by
  have:=List.length_pos_iff.2 hne
  simpa [ByteArray.size] using this
 by_cases ha:((ByteArray.mk l.toArray)[0]'hpos).toNat < 128
 ·rw [decode_ascii _ 0 hpos ha];exact nR _
 ·exact (decode_high _ 0 hpos (by omega)).2
theorem znp:∀ (n m:Nat) (l:List UInt8),l.length<=n->l.length<=m->zoh n l=zoh m l
 | 0,0,_,_,_=>rfl
 | 0,m + 1,l,h,_=>by
  have:l=[]:=List.eq_nil_of_length_eq_zero (by omega)
  subst this;simp [zoh]
 | n + 1,0,l,_,h=>by
  have:l=[]:=List.eq_nil_of_length_eq_zero (by omega)
  subst this;simp [zoh]
 | n + 1,m + 1,l,hn,hm=>by
  unfold zoh
  by_cases hl:l=[]
  ·simp [hl]
  ·rw [if_neg hl,if_neg hl];have hw:=zdx l hl;have hlen:(l.drop (decodeL l).2).length<=l.length - 1:=by rw [lLD];omega
   have hp:=List.length_pos_iff.2 hl;rw [znp n m _ (by omega) (by omega)]
theorem zfn (l:List UInt8) (hne:l ≠ []):zah l=encL (decodeL l).1++zah (l.drop (decodeL l).2):=by
 have hp:=List.length_pos_iff.2 hne;have hw:=zdx l hne;unfold zah;obtain ⟨n,hn⟩:∃ n,l.length=n + 1:=⟨l.length - 1,by omega⟩
 rw [hn];rw [zoh,if_neg hne];rw [znp n (l.drop (decodeL l).2).length _ (by rw [lLD];omega) (nR _)]
theorem zky:∀ (n:Nat) (l:List UInt8),l.length<=n->(validD l=true/\zah l=l)\/(validD l=false/\l.length < (zah l).length ):=by
 intro n
 induction n with
 | zero =>
  intro l hl
  have:l=[]:=List.eq_nil_of_length_eq_zero (by omega)
  subst this;exact .inl ⟨rfl,rfl⟩
 | succ n ih =>
  intro l hl
  by_cases hne:l=[]
  ·subst hne;exact .inl ⟨rfl,rfl⟩
  have hp:=List.length_pos_iff.2 hne;have hw:=zdx l hne;rw [validD_step l hne,zfn l hne];have hd:(l.drop (decodeL l).2).length=l.length - (decodeL l).2:=lLD
  by_cases hv:(decodeL l).1=65533/\(decodeL l).2=1
  ·rw [if_pos hv];refine .inr ⟨rfl,?_⟩;rw [hv.1,hv.2];have he:(encL ((65533:Nat):Int)).length=3:=by decide
   rw [lLA,he]
   rcases ih (l.drop 1) (by rw [lLD];omega) with ⟨_,h⟩|⟨_,h⟩
   ·rw [h,lLD];omega
   ·rw [lLD] at h;omega
  ·rw [if_neg hv];have he:=encode_decode l hne hv;rw [zhn,he]
   rcases ih (l.drop (decodeL l).2) (by omega) with ⟨h1,h2⟩|⟨h1,h2⟩
   ·exact .inl ⟨h1,by rw [h2,List.take_append_drop]⟩
   ·refine .inr ⟨h1,?_⟩
    have:=lLA (as:=l.take (decodeL l).2) (bs:=zah (l.drop (decodeL l).2))
    rw [this];have ht:(l.take (decodeL l).2).length + (l.drop (decodeL l).2).length=l.length:=by rw [<-lLA,List.take_append_drop]
    omega
theorem zi6 {l:List UInt8} (h:validD l=true):zah l=l:=by
 rcases zky l.length l (nR _) with ⟨_,h2⟩|⟨h1,_⟩
 ·exact h2
 ·rw [h] at h1;cases h1
theorem zi7 (l:List UInt8) (r wd:Nat) (hne:l ≠ []) (h:decodeL l=(r,wd)):zah l=encL (r:Int)++zah (l.drop wd):=by
 have h3:=zfn l hne;generalize decodeL l=d at h3 h;subst h;simpa only using h3
theorem zff (r:Int):(encL r).length<=4:=by rw [zhn];unfold encodeRune;rw [lLM];exact (encodeRuneZ_length r).2
/- Own work,plain: decoding what was encoded;a repaired text is valid. -/
theorem u8n (m:Nat) (h:m < 256):(UInt8.ofNat m).toNat=m:=by
 simp [Nat.mod_eq_of_lt h]
theorem zgr {z:Int} {m:Nat} (h:z=m):z.toNat.toUInt8=UInt8.ofNat m:=by subst h;simp
def zku (r:Nat):Prop:=r < 55296\/(57344<=r/\r<=1114111)
theorem zyw (r:Nat) (hv:zku r) (l:List UInt8):decodeL (encL (r:Int)++l)=(r,(encL (r:Int)).length):=by
 unfold zku at hv;rw [zhn];unfold encodeRune
 by_cases h1:r < 128
 ·rw [encodeRuneZ_one (by omega) (by omega)]
  simp only [List.map_cons,List.map_nil];rw [decodeL_N];have e:(([(r:Int).toNat.toUInt8]++l:List UInt8).getD 0 0).toNat=r:=by
   simp [Nat.mod_eq_of_lt (show r < 256 by omega)]
  rw [e];simp [decodeN,h1]
 by_cases h2:r < 2048
 ·rw [encodeRuneZ_two (by omega) (by omega)]
  simp only [List.map_cons,List.map_nil];rw [zgr (m:=192 + r / 64) (by omega),zgr (m:=128 + r % 64) (by omega),decodeL_N]
  simp only [lCA,lNA,List.getD_cons_zero,List.getD_cons_succ,lLC,List.length_nil];rw [u8n _ (by omega),u8n _ (by omega)]
  have a1:¬ 192 + r / 64 < 128:=by omega
  have a2:(192 + r / 64) / 32=6:=by omega
  have a3:(128 + r % 64) / 64=2:=by omega
  have a4:(192 + r / 64) % 32 * 64 + (128 + r % 64) % 64=r:=by omega
  unfold decodeN;rw [if_neg a1,if_pos ⟨a2,by omega,a3⟩,a4,if_pos (by omega)]
 by_cases h3:r < 65536
 ·rw [encodeRuneZ_three (by omega)]
  simp only [List.map_cons,List.map_nil];rw [zgr (m:=224 + r / 4096) (by omega),zgr (m:=128 + r / 64 % 64) (by omega),zgr (m:=128 + r % 64) (by omega),decodeL_N]
  simp only [lCA,lNA,List.getD_cons_zero,List.getD_cons_succ,lLC,List.length_nil];rw [u8n _ (by omega),u8n _ (by omega),u8n _ (by omega)]
  have a1:¬ 224 + r / 4096 < 128:=by omega
  have a2:¬ (224 + r / 4096) / 32=6:=by omega
  have a2':(224 + r / 4096) / 16=14:=by omega
  have a3:(128 + r / 64 % 64) / 64=2:=by omega
  have a3':(128 + r % 64) / 64=2:=by omega
  have a4:(224 + r / 4096) % 16 * 4096 + (128 + r / 64 % 64) % 64 * 64 + (128 + r % 64) % 64=r:=by omega
  unfold decodeN;rw [if_neg a1,if_neg (fun h=>a2 h.1),if_pos ⟨a2',⟨by omega,a3⟩,⟨by omega,a3'⟩⟩,a4,if_pos (by omega)]
 ·rw [encodeRuneZ_four (by omega) (by omega)]
  simp only [List.map_cons,List.map_nil];rw [zgr (m:=240 + r / 262144) (by omega),zgr (m:=128 + r / 4096 % 64) (by omega),zgr (m:=128 + r / 64 % 64) (by omega),zgr (m:=128 + r % 64) (by omega),decodeL_N]
  simp only [lCA,lNA,List.getD_cons_zero,List.getD_cons_succ,lLC,List.length_nil];rw [u8n _ (by omega),u8n _ (by omega),u8n _ (by omega),u8n _ (by omega)]
  have a1:¬ 240 + r / 262144 < 128:=by omega
  have a2:¬ (240 + r / 262144) / 32=6:=by omega
  have a2':¬ (240 + r / 262144) / 16=14:=by omega
  have a2'':(240 + r / 262144) / 8=30:=by omega
  have a3:(128 + r / 4096 % 64) / 64=2:=by omega
  have a3':(128 + r / 64 % 64) / 64=2:=by omega
  have a3'':(128 + r % 64) / 64=2:=by omega
  have a4:(240 + r / 262144) % 8 * 262144 + (128 + r / 4096 % 64) % 64 * 4096 + (128 + r / 64 % 64) % 64 * 64 + (128 + r % 64) % 64=r:=by omega
  unfold decodeN;rw [if_neg a1,if_neg (fun h=>a2 h.1),if_neg (fun h=>a2' h.1),if_pos ⟨a2'',⟨by omega,a3⟩,⟨by omega,a3'⟩,⟨by omega,a3''⟩⟩,a4,if_pos (by omega)]
theorem zn0 (r:Int):∃ q:Nat,zku q/\encL r=encL (q:Int):=by
 by_cases h:(0<=r/\r < 55296)\/(57344<=r/\r<=1114111)
 ·obtain ⟨n,rfl⟩:=Int.eq_ofNat_of_zero_le (show 0<=r by omega)
  exact ⟨n,by unfold zku;omega,rfl⟩
 ·refine ⟨65533,by unfold zku;omega,?_⟩
  rw [zhn,zhn];unfold encodeRune;rw [encodeRuneZ_bad (by omega)]
  rfl
theorem zhk (l:List UInt8):(zah l).length<=4 * l.length:=by
 generalize hn:l.length=n
 induction n using Nat.strongRecOn generalizing l with
 | ind n ih =>
  by_cases hl:l=[]
  ·subst hl;simp [zah,zoh]
  ·rw [zfn l hl];have hw:=zdx l hl;have hp:=List.length_pos_iff.2 hl;have h4:=zff ((decodeL l).1:Int)
   have:=ih _ (show (l.drop (decodeL l).2).length < n by rw [lLD];omega) _ rfl
   rw [lLA];rw [lLD] at this;omega
/- Own work,plain: the bytes that a code point has,as the library reckons them. -/
open Go.RowKit
theorem zeg (n:Int):IntKind.u8.wrap n=n % 256:=by
 have e1:((2:Int) ^ IntKind.u8.bits)=256:=by decide
 have e3:IntKind.u8.signed=false:=rfl;simp only [IntKind.wrap,e1,e3,Bool.false_and,Bool.false_eq_true,if_false]
theorem zth:∀ c:Fin 64,(128 ||| c.val)=128 + c.val/\(c.val < 32->(192 ||| c.val)=192 + c.val)/\(c.val < 16->(224 ||| c.val)=224 + c.val)/\(c.val < 8->(240 ||| c.val)=240 + c.val):=by decide
theorem z5w:∀ c:Fin 256,(c.val &&& 63)=c.val % 64:=by decide
theorem z8z (k x:Int) (h0:0<=x) (h1:x < 256) (k0:0<=k) (k1:k < 256):zas.bor .u8 k x=((k.toNat ||| x.toNat:Nat):Int):=by
 show IntKind.u8.wrap ((BitVec.ofInt 8 k) ||| BitVec.ofInt 8 x).toNat=_;have e:(BitVec.ofInt 8 k).toNat=k.toNat:=by
  rw [BitVec.toNat_ofInt];have e2:((2:Nat) ^ 8:Nat)=256:=by decide
  rw [e2];omega
 have e':(BitVec.ofInt 8 x).toNat=x.toNat:=by
  rw [BitVec.toNat_ofInt];have e2:((2:Nat) ^ 8:Nat)=256:=by decide
  rw [e2];omega
 rw [BitVec.toNat_or,e,e',zeg]
 have:(k.toNat ||| x.toNat) < 2 ^ 8:=Nat.or_lt_two_pow (by omega) (by omega)
 omega
theorem band8 (x:Int) (h0:0<=x) (h1:x < 256):zas.band .u8 x 63=x % 64:=by
 show IntKind.u8.wrap ((BitVec.ofInt 8 x) &&& BitVec.ofInt 8 63).toNat=_;have e':(BitVec.ofInt 8 x).toNat=x.toNat:=by
  rw [BitVec.toNat_ofInt];have e2:((2:Nat) ^ 8:Nat)=256:=by decide
  rw [e2];omega
 have e:(BitVec.ofInt 8 63).toNat=63:=by decide
 rw [BitVec.toNat_and,e,e',zeg];have h:=z5w ⟨x.toNat,by omega⟩
 simp only at h;rw [h];omega
theorem zf4 (x:Int):zas.bor .u8 128 (zas.band .u8 (zas.wrap .u8 x) 63)=128 + x % 64:=by
 have hw:zas.wrap .u8 x=x % 256:=zeg x;rw [hw,band8 _ (by omega) (by omega),z8z _ _ (by omega) (by omega) (by omega) (by omega)]
 have h:=(zth ⟨(x % 64).toNat,by omega⟩).1
 simp only at h;have e:x % 256 % 64=x % 64:=by omega
 rw [e];have e1:(128:Int).toNat=128:=rfl;rw [e1,h];omega
theorem head2 (x:Int) (h0:0<=x) (h1:x < 32):zas.bor .u8 192 (zas.wrap .u8 x)=192 + x:=by
 have hw:zas.wrap .u8 x=x % 256:=zeg x;rw [hw,z8z _ _ (by omega) (by omega) (by omega) (by omega)]
 have h:=(zth ⟨x.toNat,by omega⟩).2.1 (by show x.toNat < 32;omega)
 simp only at h;have e1:(192:Int).toNat=192:=rfl;have e2:(x % 256).toNat=x.toNat:=by omega
 rw [e1,e2,h];omega
theorem z8c (x:Int) (h0:0<=x) (h1:x < 16):zas.bor .u8 224 (zas.wrap .u8 x)=224 + x:=by
 have hw:zas.wrap .u8 x=x % 256:=zeg x;rw [hw,z8z _ _ (by omega) (by omega) (by omega) (by omega)]
 have h:=(zth ⟨x.toNat,by omega⟩).2.2.1 (by show x.toNat < 16;omega)
 simp only at h;have e1:(224:Int).toNat=224:=rfl;have e2:(x % 256).toNat=x.toNat:=by omega
 rw [e1,e2,h];omega
theorem head4 (x:Int) (h0:0<=x) (h1:x < 8):zas.bor .u8 240 (zas.wrap .u8 x)=240 + x:=by
 have hw:zas.wrap .u8 x=x % 256:=zeg x;rw [hw,z8z _ _ (by omega) (by omega) (by omega) (by omega)]
 have h:=(zth ⟨x.toNat,by omega⟩).2.2.2 (by show x.toNat < 8;omega)
 simp only at h;have e1:(240:Int).toNat=240:=rfl;have e2:(x % 256).toNat=x.toNat:=by omega
 rw [e1,e2,h];omega
def lR (l:List UInt8):List (List PV):=l.map fun b=>[.v (.int .u8 (b.toNat:Nat))]
theorem zmh (l:List UInt8):(lR l).length=l.length:=by unfold lR;rw [lLM]
theorem zqi (a b:List UInt8):lR (a++b)=lR a++lR b:=by unfold lR;rw [List.map_append]
theorem z49 (zs:List Int) (h:∀ x ∈ zs,0<=x/\x < 256):lR (zs.map fun x=>x.toNat.toUInt8)=zs.map fun x=>[.v (.int .u8 x)]:=by
 unfold lR;rw [List.map_map];refine List.map_congr_left fun x hx=>?_
 have:=h x hx
 show [PV.v (.int .u8 ((x.toNat.toUInt8).toNat:Nat))]=_;have e:(x.toNat.toUInt8).toNat=x.toNat:=by
  rw [Nat.toUInt8_eq,UInt8.toNat_ofNat'];omega
 rw [e,Int.toNat_of_nonneg this.1]
theorem zou (r:Int):lR (Utf8.encode r).data.toList=(Lib.encodeRuneZ r).map fun x=>[.v (.int .u8 x)]:=by
 rw [ztz,zhn];exact z49 _ (Lib.encodeRuneZ_byte r)
end Go.Proofs.YtcfecmeocimclaaGreatDoor
