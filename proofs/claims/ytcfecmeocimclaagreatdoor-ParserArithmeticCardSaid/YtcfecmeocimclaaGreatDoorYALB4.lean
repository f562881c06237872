/- Own work: what the lexer's walks ask of the world;library functions as contracts;lexer.point. -/
import Derived.Test.YtcfecmeocimclaaGreatDoorYAA0
import Derived.Test.YtcfecmeocimclaaGreatDoorYALB3
import Derived.Test.YtcfecmeocimclaaGreatDoorYAGT
namespace Go.Proofs.YtcfecmeocimclaaGreatDoor
set_option linter.unusedSimpArgs false
set_option maxRecDepth 100000
open Go.RowKit
def Tabs (w:World):Prop:=Lib.Utf8Tabs (Tryz.laysValid_ren.g 3) (Tryz.laysValid_ren.g 4) w
theorem zo7 {w w':World} (h:Gr w w') {a:Addr} {v:Value} (hc:w.cell? a=some v):w'.cell? a=some v:=by
 rw [Below.cell h (block_lt_of_cell hc)];exact hc
theorem Tabs.gr {w w':World} (h:Tabs w) (hg:Gr w w'):Tabs w' :=
 ⟨fun c hc=>zo7 hg (h.1 c hc),fun i hi=>⟨zo7 hg (h.2 i hi).1,zo7 hg (h.2 i hi).2⟩⟩
theorem z19 {P:Program} {w w':World} {name:String} {cs:Array Value} (h:w.var? P name=some cs) (hb:Gr w w'):w'.var? P name=some cs:=by
 unfold World.var? at *
 cases hg:P.globalNamed name with
 | none=>simp [hg] at h
 | some g =>
  simp only [hg,Option.bind_some] at h ⊢;have hlt:g < w.heap.size:=by
   rcases Nat.lt_or_ge g w.heap.size with h'|h'
   ·exact h'
   ·rw [Array.getElem?_eq_none h'] at h;simp at h
  rw [hb.block g hlt];exact h
def zzp (w:World) (name:String):Prop:=∃ (tp:TypeId) (p:Value),w.var? Tryz.prog name=some #[.iface tp p]
structure GL (w:World):Prop where
 utf8:Tabs w
 syn : zzp w "strconv.ErrSyntax"
 rng : zzp w "strconv.ErrRange"
 ml:∃ m:Int,w.cell? ⟨Tryz.lays143_ren.g 1,0,none⟩=some (.int .i64 m)
theorem zbu:∀ w w',Gr w w'->GL w->GL w':=fun _ _ hg h=>⟨h.utf8.gr hg,h.syn.imp fun _ h=>h.imp fun _ h=>z19 h hg,h.rng.imp fun _ h=>h.imp fun _ h=>z19 h hg,h.ml.imp fun _ h=>zo7 hg h⟩
abbrev RL (f:FuncId) (l:List PV) (r:PV):Prop:=Ret Tryz.prog GL f l r
abbrev ML (f:FuncId) (l:List AV) (H:AH) (r:AV) (K:AH):Prop:=zd4 Tryz.prog GL f l H r K
theorem upL {f:FuncId} {l:List PV} {r:PV} (h:V0 f l r):RL f l r:=⟨h.1,fun w B args _=>h.2 w B args trivial⟩
theorem upM {f:FuncId} {l:List AV} {H:AH} {r:AV} {K:AH} (h:VM f l H r K):ML f l H r K :=
 ⟨h.1,fun B w ι args tags htl hC=>h.2 B w ι args tags htl ⟨fun _ _=>trivial,hC.own⟩⟩
theorem zed (s:ByteArray) (c:UInt8) (z:Int) (hz:((c.toNat:Nat):Int)=z):V0 100 [pS s,.v (.int .u8 z)] (pI (Lib.indexByte s.data.toList c)) :=
 zrp Tryz.func100 (by kernel_rfl) (by kernel_rfl) [.string s,.int .u8 z] _ fun w _=>(Tryz.strings_IndexByte s z w).mono fun e w' ⟨h1,h2⟩=>⟨_,h1,by subst h2;exact Gr.refl _,fun _=>by
  have:z.toNat.toUInt8=c:=by
   rw [<-hz,Int.toNat_natCast,Nat.toUInt8_eq,UInt8.ofNat_toNat]
  rw [this];exact .v _⟩
theorem zki (s p:ByteArray):V0 72 [pS s,pS p] (pB (Lib.hasPrefix s.data.toList p.data.toList)) :=
 zrp Tryz.func72 (by kernel_rfl) (by kernel_rfl) [.string s,.string p] _ fun w _=>(Tryz.strings_HasPrefix s p w).mono fun e w' ⟨h1,h2⟩=>⟨_,h1,by subst h2;exact Gr.refl _,fun _=>.v _⟩
theorem zye (s t:ByteArray) (hs:s.size < 4294967281):RL 101 [pS s,pS t] (pI (Lib.index s.data.toList t.data.toList)) :=
 zrp Tryz.func101 (by kernel_rfl) (by kernel_rfl) [.string s,.string t] _ fun w hG=>by
  obtain ⟨m,hm⟩:=hG.ml;exact (Tryz.strings_Index s t m w hs hm).mono fun e w' ⟨h1,h2⟩=>⟨_,h1,by subst h2;exact Gr.refl _,fun _=>.v _⟩
theorem zwq (fn s:ByteArray) (base bits:Int) (hs:s.size<=1000000):RL 129 [pS fn,pS s,pI base,pI bits,eSyn] .err :=
 zrp Tryz.func129 (by kernel_rfl) (by kernel_rfl) [.string fn,.string s,.int .i64 base,.int .i64 bits,.iface 153 (.int .i64 2)] _ fun w hG=>by
  obtain ⟨tp,p,hv⟩:=hG.syn;have hc:w.cell? ⟨4,0,none⟩=some (.iface tp p):=by simpa using World.var?_cell (P:=Tryz.prog) (g:=4) (by kernel_rfl) hv 0
  exact (Tryz.strconv_toError_syntax fn s base bits (.iface tp p) w (by omega) hc (.inr ⟨tp,p,rfl⟩)).mono fun e w' ⟨N,h1,_,_,h2⟩=>⟨_,h1,h2,fun _=>.err _ _⟩
def z2a (s:ByteArray):Bool:=Lib.validD s.data.toList
theorem zwj (s:ByteArray) (hs:s.size<=9223372036854775807):RL 97 [pS s] (pB (z2a s)) :=
 zrp Tryz.func97 (by kernel_rfl) (by kernel_rfl) [.string s] _ fun w hG=>(Any.utf8_ValidString Tryz.laysValid s w hs hG.utf8).mono fun e w' ⟨h1,h2⟩=>⟨_,h1,h2,fun _=>.v _⟩
def puR2 (l:Bs):PV:=if l.all zbb then .tup [pW (zh0 l:Nat),.v .nilIface] else .tup [pW 0,.err]
theorem zjd (s:ByteArray) (h0:s.size ≠ 0) (h6:s.size<=6):RL 146 [pS s,pI 16,pI 32] (puR2 s.data.toList):=by
 have hp:=upL (zu7 s h0 h6);have he:=zwq ⟨#[80,97,114,115,101,85,105,110,116]⟩ s 16 32 (by omega)
 unfold puR at hp;unfold puR2
 cases hall:s.data.toList.all zbb with
 | true =>
  rw [hall,if_pos rfl] at hp;rw [if_pos rfl];generalize ((zh0 s.data.toList:Nat):Int)=z at *;refine zaq zaa zbu mixed (fun _=>0) Tryz.func146 rfl (by kernel_rfl) (by kernel_rfl) rfl fun P G E hc hE=>?_
  replace hp:=hc _ _ _ hp;clear he hE hc;cbv
  repeat (first|(refine ⟨_,hp,?_⟩;cbv))
 | false =>
  rw [hall,if_neg (by decide)] at hp
  rw [if_neg (by decide)]
  refine zaq zaa zbu mixed (fun _=>0) Tryz.func146 rfl (by kernel_rfl) (by kernel_rfl) rfl fun P G E hc hE=>?_
  replace hp:=hc _ _ _ hp;replace he:=hc _ _ _ he;clear hE hc;cbv
  repeat (first|(refine ⟨_,hp,?_⟩;cbv)|(refine ⟨_,he,?_⟩;cbv))
def zvf (l:Bs) (most:Int):Bool:=decide (1<=l.length) && (decide ((l.length:Int)<=most) && (l.all zbb && z0m (zh0 l)))
set_option maxHeartbeats 2000000 in
theorem ztc (A:AV) (hA:zjz A) (s:ByteArray) (most:Int) (h6:most<=6) (l:List UInt8) (hb:l.length<=900000000) (hok:zvf s.data.toList most=true) :
  ML 130 [.own 0 0,.p (pS s),.p (pI most)] (bH A l) (.p (pB true)) (bH (.own 0 0) (l++uB (zh0 s.data.toList))):=by
 have hsz:s.data.toList.length=s.size:=rfl;unfold zvf at hok;simp only [bAT,decide_eq_true_eq] at hok;obtain ⟨h1,h2,hall,hpt⟩:=hok;rw [hsz] at h1 h2;unfold z0m at hpt;simp only [bAT,decide_eq_true_eq,Bool.not_eq_true',Bool.and_eq_false_iff,decide_eq_false_iff_not] at hpt;have hp:=zjd s (by omega) (by omega)
 unfold puR2 at hp;rw [hall,if_pos rfl] at hp;obtain ⟨v,hv⟩:∃ x:Int,((zh0 s.data.toList:Nat):Int)=x:=⟨_,rfl⟩
 have ho1:v<=1114111:=by omega
 have hv0:0<=v:=by omega
 have hsur:v < 55296\/57343 < v:=by omega
 have hu:uB (zh0 s.data.toList)=encL v:=by rw [<-hv];rfl
 have hw:=upM (zlt A hA v hv0 ho1 (by omega) l (by omega))
 rw [hv] at hp;rw [hu];generalize ((encL v).length:Int)=k at hw;obtain ⟨n,hn⟩:∃ n:Int,((s.size:Nat):Int)=n:=⟨_,rfl⟩
 unfold bH at hw ⊢;obtain ⟨rs,hrs⟩:∃ x,lR l=x:=⟨_,rfl⟩
 obtain ⟨m,hm⟩:∃ x,l.length=x:=⟨_,rfl⟩
 obtain ⟨RS,hRS2⟩:∃ x,lR (l++encL v)=x:=⟨_,rfl⟩
 obtain ⟨M,hM2⟩:∃ x,(l++encL v).length=x:=⟨_,rfl⟩
 rw [hrs,hm,hRS2,hM2] at hw;rw [hrs,hm,hRS2,hM2];clear hu hv hpt hall hsz
 rcases hA with rfl|rfl
 all_goals
  refine zad zaa (f:=130) Tryz.func130 rfl (by kernel_rfl) (oT (by kernel_rfl)) fun tags htl=>?_
  match tags,htl with
  | [t0,t1],_ =>
   refine Seg.of zaa mixed (fun _=>0) (by kernel_rfl) (fun E=>za0 E tyT Tryz.f130.results.toList [t0,t1] (.p (pB true)) [some (.box [.own 0 0,.osl 1 0 M] 60 none),some (.rows 1 RS 5)]) fun P G E hc hM3 hE=>?_
   replace hw:=hM3 _ _ _ _ _ hw;replace hp:=hc _ _ _ hp;have z1:E.size s=n:=by rw [hE];exact hn
   have d1:E.lti n 1=false:=by rw [hE];exact dF (by omega)
   have d2:E.lti most n=false:=by rw [hE];exact dF (by omega)
   have d3:E.lti 1114111 v=false:=by rw [hE];exact dF (by omega)
   have d4:E.lei 55296 v=decide (55296<=v):=by rw [hE];rfl
   have d5:E.lei v 57343=decide (v<=57343):=by rw [hE];rfl
   have w1:E.wrap .i32 v=v:=by rw [hE];exact zrb (by omega) (by omega)
   clear hE hc hM3 hRS2 hM2 hrs hm hb hn h1 h2 ho1
   rcases hsur with h|h
   ·rw [dF (by omega)] at d4
    clear d5 h hv0;cbv
    repeat (first|(simp only [z1];cbv)|simp only [z1]|(simp only [d1];cbv)|simp only [d1]|(simp only [d2];cbv)|simp only [d2]|(refine ⟨_,hp,?_⟩;cbv)|(simp only [d3];cbv)|simp only [d3]|(simp only [d4];cbv)|simp only [d4]|(simp only [w1];cbv)|simp only [w1])
    refine .mk _ _ (Wk.refl _ _) [0,1] _ _ _ _ hw rfl rfl rfl ?_;cbv;all_goals trivial
   ·rw [dT (by omega)] at d4
    rw [dF (by omega)] at d5
    clear h hv0;cbv
    repeat (first|(simp only [z1];cbv)|simp only [z1]|(simp only [d1];cbv)|simp only [d1]|(simp only [d2];cbv)|simp only [d2]|(refine ⟨_,hp,?_⟩;cbv)|(simp only [d3];cbv)|simp only [d3]|(simp only [d4];cbv)|simp only [d4]|(simp only [d5];cbv)|simp only [d5]|(simp only [w1];cbv)|simp only [w1])
    refine .mk _ _ (Wk.refl _ _) [0,1] _ _ _ _ hw rfl rfl rfl ?_;cbv;all_goals trivial
set_option maxHeartbeats 2000000 in
theorem ztd (A:AV) (hA:zjz A) (s:ByteArray) (most:Int) (h6:most<=6) (l:List UInt8) (hok:zvf s.data.toList most=false) :
  ML 130 [.own 0 0,.p (pS s),.p (pI most)] (bH A l) (.p (pB false)) (bH A l):=by
 have hsz:s.data.toList.length=s.size:=rfl;have hal:A.low 2=true:=by rcases hA with rfl|rfl <;> rfl
 cbv at hal;clear hA;obtain ⟨n,hn⟩:∃ n:Int,((s.size:Nat):Int)=n:=⟨_,rfl⟩
 unfold bH;obtain ⟨rs,hrs⟩:∃ x,lR l=x:=⟨_,rfl⟩
 obtain ⟨m,hm⟩:∃ x,l.length=x:=⟨_,rfl⟩
 rw [hrs,hm];clear hrs hm;unfold zvf at hok;rw [hsz] at hok
 rcases cEm (n < 1) with h1|h1
 ·skip
  refine zad zaa (f:=130) Tryz.func130 rfl (by kernel_rfl) (oT (by kernel_rfl)) fun tags htl=>?_
  match tags,htl with
  | [t0,t1],_ =>
   refine Seg.of zaa mixed (fun _=>0) (by kernel_rfl) (fun E=>za0 E tyT Tryz.f130.results.toList [t0,t1] (.p (pB false)) [some (.box [A,.osl 1 0 m] 60 none),some (.rows 1 rs 5)]) fun P G E hc hM3 hE=>?_
   have z1:E.size s=n:=by rw [hE];exact hn
   have d1:E.lti n 1=decide (n < 1):=by rw [hE];rfl
   have d2:E.lti most n=decide (most < n):=by rw [hE];rfl
   rw [dT h1] at d1;clear hE hc hM3 hn h1 hok hsz;cbv
   repeat (first|(simp only [z1];cbv)|simp only [z1]|(simp only [d1];cbv)|simp only [d1]|(simp only [hal];cbv)|simp only [hal])
 rw [dT (show 1<=s.size by omega),Bool.true_and] at hok
 rcases cEm (most < n) with h2|h2
 ·skip
  refine zad zaa (f:=130) Tryz.func130 rfl (by kernel_rfl) (oT (by kernel_rfl)) fun tags htl=>?_
  match tags,htl with
  | [t0,t1],_ =>
   refine Seg.of zaa mixed (fun _=>0) (by kernel_rfl) (fun E=>za0 E tyT Tryz.f130.results.toList [t0,t1] (.p (pB false)) [some (.box [A,.osl 1 0 m] 60 none),some (.rows 1 rs 5)]) fun P G E hc hM3 hE=>?_
   have z1:E.size s=n:=by rw [hE];exact hn
   have d1:E.lti n 1=decide (n < 1):=by rw [hE];rfl
   have d2:E.lti most n=decide (most < n):=by rw [hE];rfl
   rw [dF h1] at d1;rw [dT h2] at d2;clear hE hc hM3 hn h1 hok hsz h2;cbv
   repeat (first|(simp only [z1];cbv)|simp only [z1]|(simp only [d1];cbv)|simp only [d1]|(simp only [d2];cbv)|simp only [d2]|(simp only [hal];cbv)|simp only [hal])
 rw [dT (show ((s.size:Nat):Int)<=most by omega),Bool.true_and] at hok
 have hp:=zjd s (by omega) (by omega)
 unfold puR2 at hp
 cases hall:s.data.toList.all zbb with
 | false =>
  rw [hall,if_neg (by decide)] at hp
  refine zad zaa (f:=130) Tryz.func130 rfl (by kernel_rfl) (oT (by kernel_rfl)) fun tags htl=>?_
  match tags,htl with
  | [t0,t1],_ =>
   refine Seg.of zaa mixed (fun _=>0) (by kernel_rfl) (fun E=>za0 E tyT Tryz.f130.results.toList [t0,t1] (.p (pB false)) [some (.box [A,.osl 1 0 m] 60 none),some (.rows 1 rs 5)]) fun P G E hc hM3 hE=>?_
   have z1:E.size s=n:=by rw [hE];exact hn
   have d1:E.lti n 1=decide (n < 1):=by rw [hE];rfl
   have d2:E.lti most n=decide (most < n):=by rw [hE];rfl
   replace hp:=hc _ _ _ hp;rw [dF h1] at d1;rw [dF h2] at d2;clear hE hc hM3 hn h1 hok hsz h2 hall;cbv
   repeat (first|(simp only [z1];cbv)|simp only [z1]|(simp only [d1];cbv)|simp only [d1]|(simp only [d2];cbv)|simp only [d2]|(refine ⟨_,hp,?_⟩;cbv)|(simp only [hal];cbv)|simp only [hal])
 | true =>
  rw [hall,if_pos rfl] at hp;rw [hall,Bool.true_and] at hok;unfold z0m at hok;obtain ⟨v,hv⟩:∃ x:Int,((zh0 s.data.toList:Nat):Int)=x:=⟨_,rfl⟩
  rw [hv] at hp
  rcases cEm (v<=1114111) with h3|h3
  ·rw [dT (show zh0 s.data.toList<=1114111 by omega),Bool.true_and] at hok
   simp only [Bool.not_eq_false',bAT,decide_eq_true_eq] at hok;have h4:55296<=v:=by omega
   have h5:v<=57343:=by omega
   refine zad zaa (f:=130) Tryz.func130 rfl (by kernel_rfl) (oT (by kernel_rfl)) fun tags htl=>?_
   match tags,htl with
   | [t0,t1],_ =>
    refine Seg.of zaa mixed (fun _=>0) (by kernel_rfl) (fun E=>za0 E tyT Tryz.f130.results.toList [t0,t1] (.p (pB false)) [some (.box [A,.osl 1 0 m] 60 none),some (.rows 1 rs 5)]) fun P G E hc hM3 hE=>?_
    have z1:E.size s=n:=by rw [hE];exact hn
    have d1:E.lti n 1=decide (n < 1):=by rw [hE];rfl
    have d2:E.lti most n=decide (most < n):=by rw [hE];rfl
    replace hp:=hc _ _ _ hp;have d3:E.lti 1114111 v=false:=by rw [hE];exact dF (by omega)
    have d4:E.lei 55296 v=true:=by rw [hE];exact dT h4
    have d5:E.lei v 57343=true:=by rw [hE];exact dT h5
    rw [dF h1] at d1;rw [dF h2] at d2;clear hE hc hM3 hn h1 hok hsz h2 hall hv h3 h4 h5;cbv
    repeat (first|(simp only [z1];cbv)|simp only [z1]|(simp only [d1];cbv)|simp only [d1]|(simp only [d2];cbv)|simp only [d2]|(refine ⟨_,hp,?_⟩;cbv)|(simp only [d3];cbv)|simp only [d3]|(simp only [d4];cbv)|simp only [d4]|(simp only [d5];cbv)|simp only [d5]|(simp only [hal];cbv)|simp only [hal])
  ·skip
   refine zad zaa (f:=130) Tryz.func130 rfl (by kernel_rfl) (oT (by kernel_rfl)) fun tags htl=>?_
   match tags,htl with
   | [t0,t1],_ =>
    refine Seg.of zaa mixed (fun _=>0) (by kernel_rfl) (fun E=>za0 E tyT Tryz.f130.results.toList [t0,t1] (.p (pB false)) [some (.box [A,.osl 1 0 m] 60 none),some (.rows 1 rs 5)]) fun P G E hc hM3 hE=>?_
    have z1:E.size s=n:=by rw [hE];exact hn
    have d1:E.lti n 1=decide (n < 1):=by rw [hE];rfl
    have d2:E.lti most n=decide (most < n):=by rw [hE];rfl
    replace hp:=hc _ _ _ hp;have d3:E.lti 1114111 v=true:=by rw [hE];exact dT (by omega)
    rw [dF h1] at d1;rw [dF h2] at d2;clear hE hc hM3 hn h1 hok hsz h2 hall hv h3;cbv
    repeat (first|(simp only [z1];cbv)|simp only [z1]|(simp only [d1];cbv)|simp only [d1]|(simp only [d2];cbv)|simp only [d2]|(refine ⟨_,hp,?_⟩;cbv)|(simp only [d3];cbv)|simp only [d3]|(simp only [hal];cbv)|simp only [hal])
end Go.Proofs.YtcfecmeocimclaaGreatDoor
