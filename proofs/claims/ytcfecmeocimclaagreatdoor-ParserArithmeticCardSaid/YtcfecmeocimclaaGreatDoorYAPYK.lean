/- Own work: the value of a tree of sums and products. -/
import Derived.Test.YtcfecmeocimclaaGreatDoorYAA0
import Derived.Test.YtcfecmeocimclaaGreatDoorYAPYJ
namespace Go.Proofs.YtcfecmeocimclaaGreatDoor
set_option linter.unusedSimpArgs false
set_option linter.unusedVariables false
set_option maxRecDepth 100000
open Go.RowKit
theorem z6a (x:Int):∃ q,IntKind.i64.wrap x=x + 18446744073709551616 * q:=⟨-((x + 9223372036854775808) / 18446744073709551616),by rw [zd6];omega⟩
theorem z59 (x q:Int):IntKind.i64.wrap (x + 18446744073709551616 * q)=IntKind.i64.wrap x:=by rw [zd6,zd6];omega
theorem zna (x y:Int):IntKind.i64.wrap (IntKind.i64.wrap x + IntKind.i64.wrap y)=IntKind.i64.wrap (x + y):=by simp only [zd6];omega
theorem z16 (x y:Int):IntKind.i64.wrap (IntKind.i64.wrap x - IntKind.i64.wrap y)=IntKind.i64.wrap (x - y):=by simp only [zd6];omega
theorem zv8 (x y:Int):IntKind.i64.wrap (IntKind.i64.wrap x * IntKind.i64.wrap y)=IntKind.i64.wrap (x * y):=by
 obtain ⟨a,ha⟩:=z6a x;obtain ⟨b,hb⟩:=z6a y;rw [ha,hb,<- z59 (x * y) (x * b + a * y + a * (18446744073709551616 * b))]
 congr 1
 rw [Int.add_mul,Int.mul_add,Int.mul_add,Int.mul_add,Int.mul_left_comm x,Int.mul_assoc _ a y,Int.mul_assoc _ a,Int.mul_add];omega
def AT.sm:AT->Prop
 | .num n=>n<=9
 | .neg a=>a.sm
 | .bin o a b=>o<=2/\a.sm/\b.sm
theorem z31 {u:Un} (h:u.d<=9):(unA u).sm:=by
 unfold unA
 split <;> exact h
theorem zwv:∀ (l:List It) (p:AT),Ok l->p.sm->(zg9 p l).1.sm
 | [],p,_,h=>h
 | x :: l,p,ho,h=>by
  rw [zg9]
  split
  ·exact zwv l _ (fun y hy=>ho y (List.mem_cons_of_mem _ hy)) ⟨nR 2,h,z31 (ho x (List.mem_cons_self ..)).2⟩
  ·exact h
theorem z2i:∀ (n:Nat) (l:List It) (acc:AT),Ok l->acc.sm->(zzu n acc l).sm
 | 0,_,_,_,h=>h
 | n + 1,[],_,_,h=>h
 | n + 1,x :: l,acc,ho,h=>by
  have hx:=ho x (List.mem_cons_self ..);have hl:Ok l:=fun y hy=>ho y (List.mem_cons_of_mem _ hy)
  exact z2i n _ _ (zk3 l _ hl) ⟨hx.1,h,zwv l _ hl (z31 hx.2)⟩
theorem z32 {u:Un} {l:List It} (hu:u.d<=9) (h:Ok l):(zn8 u l).sm:=z2i _ _ _ (zk3 l _ h) (zwv l _ h (z31 hu))
theorem zwg (n:Nat) (hn:n<=9):V0 12 [.agg (za8 (AT.num n).pt)] (pI (IntKind.i64.wrap (AT.num n).val)):=by
 obtain ⟨z,hz⟩:∃ z:Int,((n:Nat):Int)=z:=⟨_,rfl⟩
 have hw:IntKind.i64.wrap (AT.num n).val=z:=by show IntKind.i64.wrap ((n:Nat):Int)=z;rw [zaf (by omega) (by omega),hz]
 have hx:za8 (AT.num n).pt=[pI 5,pS ⟨#[]⟩,pI z,pI 0,.v (.slice none 0 0)]:=by rw [AT.pt,za8,zao,hz];rfl
 rw [hw,hx];refine zfb zaa zby mixed (fun n=>match n with|6=>9|8=>9|10=>9|_=>0) Tryz.func12 rfl (by kernel_rfl) (by kernel_rfl) rfl fun P G E hc hM hE=>?_
 have hE1:E={ E with ofN:=fun n=>((n:Nat):Int),nat:=Int.toNat }:=by rw [hE];rfl
 rw [hE1];clear hE1;clear hc hM hE hx hw hz;cbv
theorem zwh (a:AT) (ha:V0 12 [.agg (za8 a.pt)] (pI (IntKind.i64.wrap a.val))):V0 12 [.agg (za8 (AT.neg a).pt)] (pI (IntKind.i64.wrap (AT.neg a).val)):=by
 obtain ⟨za,hza⟩:∃ z,IntKind.i64.wrap a.val=z:=⟨_,rfl⟩
 obtain ⟨z,hz⟩:∃ z,IntKind.i64.wrap (AT.neg a).val=z:=⟨_,rfl⟩
 obtain ⟨k,i,q,nm,K,hv⟩:=zih a.pt;have ok:=hv.one;rw [hza,hv.row] at ha;have hx:za8 (AT.neg a).pt=[pI 12,pS ⟨#[]⟩,pI 0,pI 1,.ro 5 [[pI k,pS nm,pI i,pI q,K]]]:=by
  unfold AT.pt ndO;simp only [za8,zao,zae,hv.row];rfl
 rw [hz,hx];cbv at ok;refine zfb zaa zby mixed (fun n=>match n with|6=>9|8=>9|10=>9|_=>0) Tryz.func12 rfl (by kernel_rfl) (by kernel_rfl) rfl fun P G E hc hM hE=>?_
 have hE1:E={ E with ofN:=fun n=>((n:Nat):Int),nat:=Int.toNat }:=by rw [hE];rfl
 rw [hE1];clear hE1;replace ha:=hc _ _ _ ha;have p0:E.ple 0 0:=by rw [hE];exact Int.le_refl 0
 have w1:E.wsub .i64 0 za=z:=by
  rw [hE,<- hz,<- hza]
  have:=z16 0 a.val
  rw [zaf (n:=0) (by decide) (by decide),Int.zero_sub a.val] at this
  exact this
 clear hc hM hE hx hv hz hza;cbv;refine ⟨p0,_,rfl,?_⟩;cbv;simp only [ok];cbv;refine ⟨_,ha,?_⟩;cbv;simp only [w1]
theorem zwi (o:Nat) (a b:AT) (ho2:o<=2) (ha:V0 12 [.agg (za8 a.pt)] (pI (IntKind.i64.wrap a.val))) (hb:V0 12 [.agg (za8 b.pt)] (pI (IntKind.i64.wrap b.val))):V0 12 [.agg (za8 (AT.bin o a b).pt)] (pI (IntKind.i64.wrap (AT.bin o a b).val)):=by
 obtain ⟨za,hza⟩:∃ z,IntKind.i64.wrap a.val=z:=⟨_,rfl⟩
 obtain ⟨zb,hzb⟩:∃ z,IntKind.i64.wrap b.val=z:=⟨_,rfl⟩
 obtain ⟨z,hz⟩:∃ z,IntKind.i64.wrap (AT.bin o a b).val=z:=⟨_,rfl⟩
 obtain ⟨k,i,q,nm,K,hv⟩:=zih a.pt;obtain ⟨k',i',q',nm',K',hv'⟩:=zih b.pt;have ok:=hv.one;have ok':=hv'.one;rw [hza,hv.row] at ha;rw [hzb,hv'.row] at hb;rw [hz]
 rcases (show o=0\/o=1\/o=2 by omega) with rfl|rfl|rfl
 ·have hz0:=ho2;have ho:=ze2 6 (by decide) (by decide) (w:=[43]) rfl
  rw [show bL [43]=⟨#[43]⟩ from rfl] at ho;have hx:za8 (AT.bin 0 a b).pt=[pI 13,pS ⟨#[]⟩,pI 0,pI 6,.ro 5 [[pI k,pS nm,pI i,pI q,K],[pI k',pS nm',pI i',pI q',K']]]:=by
   show za8 (ndO 13 6 [a.pt,b.pt])=_;unfold ndO;simp only [za8,zao,zae,hv.row,hv'.row];rfl
  rw [hx];cbv at ok;cbv at ok';refine zfb zaa zby mixed (fun n=>match n with|6=>9|8=>9|10=>9|_=>0) Tryz.func12 rfl (by kernel_rfl) (by kernel_rfl) rfl fun P G E hc hM hE=>?_
  have hE1:E={ E with ofN:=fun n=>((n:Nat):Int),nat:=Int.toNat }:=by rw [hE];rfl
  rw [hE1];clear hE1;replace ha:=hc _ _ _ ha;replace hb:=hc _ _ _ hb;have ho':=hc _ _ _ ho;have p0:E.ple 0 0:=by rw [hE];exact Int.le_refl 0
  have p1:E.ple 0 1:=by rw [hE];show (0:Int)<=1;decide
  have e1:E.eq ⟨#[43]⟩ ⟨#[43]⟩=true:=by rw [hE];show decide ((⟨#[43]⟩:ByteArray)=⟨#[43]⟩)=true;decide
  have e2:E.eq ⟨#[43]⟩ ⟨#[45]⟩=false:=by rw [hE];show decide ((⟨#[43]⟩:ByteArray)=⟨#[45]⟩)=false;decide
  have w1:E.wadd .i64 za zb=z:=by rw [hE,<- hz,<- hza,<- hzb];exact zna _ _
  clear hc hM hE hx hv hv' hz hza hzb;cbv;refine ⟨_,ho',?_⟩;cbv;simp only [e1];cbv;refine ⟨p0,_,rfl,?_⟩;cbv;simp only [ok];cbv;refine ⟨_,ha,?_⟩;cbv;refine ⟨p1,_,rfl,?_⟩;cbv;simp only [ok'];cbv;refine ⟨_,hb,?_⟩;cbv;simp only [w1]
 ·have hz0:=ho2;have ho:=ze2 7 (by decide) (by decide) (w:=[45]) rfl
  rw [show bL [45]=⟨#[45]⟩ from rfl] at ho;have hx:za8 (AT.bin 1 a b).pt=[pI 13,pS ⟨#[]⟩,pI 0,pI 7,.ro 5 [[pI k,pS nm,pI i,pI q,K],[pI k',pS nm',pI i',pI q',K']]]:=by
   show za8 (ndO 13 7 [a.pt,b.pt])=_;unfold ndO;simp only [za8,zao,zae,hv.row,hv'.row];rfl
  rw [hx];cbv at ok;cbv at ok';refine zfb zaa zby mixed (fun n=>match n with|6=>9|8=>9|10=>9|_=>0) Tryz.func12 rfl (by kernel_rfl) (by kernel_rfl) rfl fun P G E hc hM hE=>?_
  have hE1:E={ E with ofN:=fun n=>((n:Nat):Int),nat:=Int.toNat }:=by rw [hE];rfl
  rw [hE1];clear hE1;replace ha:=hc _ _ _ ha;replace hb:=hc _ _ _ hb;have ho':=hc _ _ _ ho;have p0:E.ple 0 0:=by rw [hE];exact Int.le_refl 0
  have p1:E.ple 0 1:=by rw [hE];show (0:Int)<=1;decide
  have e1:E.eq ⟨#[45]⟩ ⟨#[43]⟩=false:=by rw [hE];show decide ((⟨#[45]⟩:ByteArray)=⟨#[43]⟩)=false;decide
  have e2:E.eq ⟨#[45]⟩ ⟨#[45]⟩=true:=by rw [hE];show decide ((⟨#[45]⟩:ByteArray)=⟨#[45]⟩)=true;decide
  have w1:E.wsub .i64 za zb=z:=by rw [hE,<- hz,<- hza,<- hzb];exact z16 _ _
  clear hc hM hE hx hv hv' hz hza hzb;cbv;refine ⟨_,ho',?_⟩;cbv;simp only [e1];cbv;refine ⟨_,ho',?_⟩;cbv;simp only [e2];cbv;refine ⟨p0,_,rfl,?_⟩;cbv;simp only [ok];cbv;refine ⟨_,ha,?_⟩;cbv;refine ⟨p1,_,rfl,?_⟩;cbv;simp only [ok'];cbv;refine ⟨_,hb,?_⟩;cbv;simp only [w1]
 ·have hz0:=ho2;have ho:=ze2 8 (by decide) (by decide) (w:=[42]) rfl
  rw [show bL [42]=⟨#[42]⟩ from rfl] at ho;have hx:za8 (AT.bin 2 a b).pt=[pI 13,pS ⟨#[]⟩,pI 0,pI 8,.ro 5 [[pI k,pS nm,pI i,pI q,K],[pI k',pS nm',pI i',pI q',K']]]:=by
   show za8 (ndO 13 8 [a.pt,b.pt])=_;unfold ndO;simp only [za8,zao,zae,hv.row,hv'.row];rfl
  rw [hx];cbv at ok;cbv at ok';refine zfb zaa zby mixed (fun n=>match n with|6=>9|8=>9|10=>9|_=>0) Tryz.func12 rfl (by kernel_rfl) (by kernel_rfl) rfl fun P G E hc hM hE=>?_
  have hE1:E={ E with ofN:=fun n=>((n:Nat):Int),nat:=Int.toNat }:=by rw [hE];rfl
  rw [hE1];clear hE1;replace ha:=hc _ _ _ ha;replace hb:=hc _ _ _ hb;have ho':=hc _ _ _ ho;have p0:E.ple 0 0:=by rw [hE];exact Int.le_refl 0
  have p1:E.ple 0 1:=by rw [hE];show (0:Int)<=1;decide
  have e1:E.eq ⟨#[42]⟩ ⟨#[43]⟩=false:=by rw [hE];show decide ((⟨#[42]⟩:ByteArray)=⟨#[43]⟩)=false;decide
  have e2:E.eq ⟨#[42]⟩ ⟨#[45]⟩=false:=by rw [hE];show decide ((⟨#[42]⟩:ByteArray)=⟨#[45]⟩)=false;decide
  have w1:E.wmul .i64 za zb=z:=by rw [hE,<- hz,<- hza,<- hzb];exact zv8 _ _
  clear hc hM hE hx hv hv' hz hza hzb;cbv;refine ⟨_,ho',?_⟩;cbv;simp only [e1];cbv;refine ⟨_,ho',?_⟩;cbv;simp only [e2];cbv;refine ⟨p0,_,rfl,?_⟩;cbv;simp only [ok];cbv;refine ⟨_,ha,?_⟩;cbv;refine ⟨p1,_,rfl,?_⟩;cbv;simp only [ok'];cbv;refine ⟨_,hb,?_⟩;cbv;simp only [w1]
theorem zwf (a:AT) (h:a.sm):V0 12 [.agg (za8 a.pt)] (pI (IntKind.i64.wrap a.val)):=by
 induction a with
 | num n=>exact zwg n h
 | neg a ih=>exact zwh a (ih h)
 | bin o a b iha ihb=>exact zwi o a b h.1 (iha h.2.1) (ihb h.2.2)
end Go.Proofs.YtcfecmeocimclaaGreatDoor
