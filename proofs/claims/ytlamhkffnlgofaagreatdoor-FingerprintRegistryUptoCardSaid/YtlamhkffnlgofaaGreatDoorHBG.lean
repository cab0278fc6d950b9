/- What sheaveref03.Put computes: the same as varint.Put. What sheaveref19's put, flag, member and Full compute: the bytes of numbers, flags, members and plain values. Condition: the value fits a type of a valid schema. What sheaveref19.Full computes of a map, and of each plain value: its full bytes. Condition: the value fits a type of a valid schema. What sheaveref19's member and single compute: the bytes of a member and of a type. Condition: the type is well-formed and its numbers are small. What sheaveref19.single computes of an enum, a record, a union: its bytes. Condition: the type's numbers are small, and no member is critical and has a default. No condition. -/
import Derived.Test.YtlamhkffnlgofaaGreatDoorHBF
set_option maxHeartbeats 1600000
set_option maxRecDepth 100000
namespace Go.Proofs.YtlamhkffnlgofaaGreatDoor
open Go.ChangeShapes Go.WideShapes Go.ChangeAt Go.RowKit
theorem aEf:(Tryz.prog.info? 5).map (fun i => (i.zero,i.size,i.bytes))=some (some (.int .u8 0),1,1):=by kernel_rfl
theorem aFO (m k:Nat) (h:m*128 ^ k < 18446744073709551616):m / 128*128 ^ (k+1) < 18446744073709551616:=by
 have h2:m / 128*128≤m:=Nat.div_mul_le_self _ _
 calc m / 128*128 ^ (k+1)=(m / 128*128)*128^k:=by rw [Nat.pow_succ,Nat.mul_comm (128^k),Nat.mul_assoc]
  _≤m*128 ^ k:=Nat.mul_le_mul_right _ h2
  _ < _:=h
theorem aEz (m k:Nat) (h:m*128 ^ k < 18446744073709551616):IntKind.u64.wrap ((m:Int) / 128)=(m:Int) / 128:=by
 have:m≤m*128 ^ k:=Nat.le_mul_of_pos_right _ (Nat.pow_pos (by omega));rw [IntKind.wrap_u64];omega
theorem azj (n:Nat) (hn:oV n) (w:World) :
  Calls Tryz.prog 86 #[.int .u64 n] w (RTq w (.string ⟨(pJ 9 n).toArray⟩)):=by
 go_enter Tryz.func86,Tryz.ntmps86
 go_wp2
 go_loopw [0,3] (fun a v wr => ∃ k m:Nat,∃ l:List UInt8,k≤9∧l.length=k∧a = .int .u64 m∧pJ 9 n=l ++ pJ (9-k) m∧Hid (m*128 ^ k < 18446744073709551616)∧wr.ownsRow w.heap.size 5 1 v k (l.map B8)∧Below w.heap.size w wr)
  (fun a _ _ => (intOf a).toNat)
 case atStart => exact ⟨0,n,[],by omega,rfl,rfl,rfl,by rw [Nat.pow_zero,Nat.mul_one];exact hn,World.ownsRow_nil _ _ _ _,Below.refl _ _⟩
 case round =>
  obtain ⟨k,m,l,hk,hl,rfl,hp,hm,hown,hbl⟩:=hrel;have Hl:=hiQ hl;have Hp:=hiQ hp;clear hl hp;by_cases hlt:m < 128
  ·
   go_wp2_with (at_builtin;refine su rfl _ _ _ rfl w.heap.size 5 _ 1 1 Tryz.underlying87 aEf rfl (by decide) _ k (l.map B8) rfl hown [_] _ 1 rfl rfl (by simp [Value.oneCell']) (by omega) (by omega) hbl.size ?_;intro v' w1 hown1 hb1)
   have hown2:w1.ownsRow w.heap.size 5 1 v' (k+1) ((l ++ [UInt8.ofNat m]).map B8):=by
    rw [ZC m (by omega) (by omega)] at hown1;simpa using hown1
   rw [ZE 87 9 5 Tryz.underlying87 Tryz.underlying5 Tryz.underlying9 hown2];clear hown1 hown2 hown;go_wp2
   go_ret;refine ⟨?_,hbl.trans hb1⟩;rw [Hp.out,ag1 _ _ hlt];rfl
  have hk9:k < 9:=by
   exact zGw
  have hq:IntKind.u64.wrap ((m:Int) / 128)=(m:Int) / 128:=aEz m k hm.out;go_wp2_with (at_builtin;refine su rfl _ _ _ rfl w.heap.size 5 _ 1 1 Tryz.underlying87 aEf rfl (by decide) _ k (l.map B8) rfl hown [_] _ 1 rfl rfl (by simp [Value.oneCell']) (by omega) (by omega) hbl.size ?_;intro v' w1 hown1 hb1)
  go_roundw
  case rel =>
   refine ⟨k+1,m/128,l ++ [UInt8.ofNat (m % 128+128)],by omega,by simp [Hl.out],by go_num,?_,?_,?_,hbl.trans hb1⟩
   · rw [Hp.out,ag2 _ _ hlt hk9];simp
   · exact aFO m k hm.out
   rw [ZC _ (by omega) (by omega)] at hown1;have e:((m:Int) % 128+128).toNat=m % 128+128:=by omega
   rw [e] at hown1;simpa using hown1
  case measure => simp [intOf];omega
theorem aCb (n:Int) (h:I64 n) (w:World):Calls Tryz.prog 87 #[.int .i64 n] w fun e w' => e = .returned (.int .u64 (zig n))∧w=w':=by
 exact zDv
theorem aFU (t:ay) (vs vm:Value) (id:Int) (w:World) (ht:jc w w.heap.size t vs vm) :
  Calls Tryz.prog 90 #[dA t vs vm,.int .i64 id] w (RTq w (xg (dN t id))):=by
 exact zBs
abbrev rG (l:List UInt8) (w:World) (e:Ending) (w':World):Prop:=e = .returned (.string ⟨l.toArray⟩)∧Below w.heap.size w w'
theorem alA (n:Nat) (hn:n≤4611686018427387904) (w:World):Calls Tryz.prog 50 #[.int .i64 (n:Nat)] w (rG (pJ 9 n) w):=by
 have hw1:IntKind.u64.wrap (n:Int)=n:=by rw [IntKind.wrap_u64];omega
 go_enter Tryz.func50,Tryz.ntmps50
 go_wp2_with fail;((with_reducible refine (azj n (by unfold oV;omega) _).mono ?_);rintro e wd1 ⟨rfl,hb2⟩);have hw3:=hb2;clear hb2;exact zCm
theorem aAL (b:Bool) (w:World):Calls Tryz.prog 88 #[.bool b] w (rG (F6 b) w):=by
 have H0:Hid (∀ W,Calls Tryz.prog 50 #[.int .i64 0] W (rG (pJ 9 0) W)):=fun W => alA 0 (by decide) W;have H1:Hid (∀ W,Calls Tryz.prog 50 #[.int .i64 1] W (rG (pJ 9 1) W)):=fun W => alA 1 (by decide) W;cases b with
 | true =>
  go_enter Tryz.func88,Tryz.ntmps88
  go_wp2_with fail;((with_reducible refine (H1.out _).mono ?_);rintro e wd1 ⟨rfl,hb2⟩);have hw3:=hb2;clear hb2;exact zCm
 | false =>
  go_enter Tryz.func88,Tryz.ntmps88
  go_wp2_with fail;((with_reducible refine (H0.out _).mono ?_);rintro e wd1 ⟨rfl,hb2⟩);have hw3:=hb2;clear hb2;exact zCm
abbrev aq7 (ts:List ay) (v:Val) (t:Int):Prop := ∀ (w:World) (A:Option Addr) (c:Nat) (vk vi vr:Value),aU w w.heap.size (.slice A ts.length c) ts→ValAt w w.heap.size v vk vi vr→(gI ts v t).length≤10000000000000 →
 Calls Tryz.prog 52 #[.agg #[.slice A ts.length c],.int .i64 t,aS v vk vi vr] w (rG (gI ts v t) w)
theorem aJT {ts:List ay} (v:Val) (t:Nat) (x:ay) (hx:ts[t]?=some x) (hk:x.kind=1) (aox:gI ts v (t:Nat)=F6 v.bool):aq7 ts v (t:Nat):=by
 intro w A c vk vi vr ht hva hq;rw [aox] at hq ⊢;obtain ⟨D1,d1,D2,d2,D3,d3,rfl,rfl,rfl,-,-,-⟩:=hva.forms;have htl:t < ts.length:=(List.getElem?_eq_some_iff.1 hx).1;have hxt:ts[t]=x:=(List.getElem?_eq_some_iff.1 hx).2;obtain ⟨b,o,hA,RX,hel⟩:=ht.elem (by omega);subst hA;obtain ⟨vs,vm,hcell,hxa⟩:=hel t htl;rw [hxt] at hcell hxa;obtain ⟨C1,l1,C2,l2,rfl,rfl,-,-⟩:=hxa.forms;have HT:=hiQ ht;have HV:=hiQ hva;have Wj:=hiQ hxa;have hd0:decide ((t:Int) < 0)=false:=by simp
 have hd1:decide (ts.length≤t)=false:=by simpa using htl
 have aoo:(t:Int) < ts.length:=by omega
 clear ht hva hxa hel hxt hx aox;go_enter Tryz.func52,Tryz.ntmps52
 go_upto_region 1 with fail;refine jg (fun wd2 hb1 S V => ?_);have hw3:=hb1;clear hb1;have aH:=S.out.e0;obtain ⟨x0,x1,x2,x3,x4,x5,x6,x7,x8,x9⟩:=hcell.below hw3 RX;rw [hk] at x0;go_upto_region 2 with fail;clear aH;refine aO (fun fG hb4 X => ?_);have nI:=S.out.here;have mO:=V.out.here;have kH:=hw3.size;obtain ⟨S,V⟩:=b2 S V hb4;replace hw3:=dT hw3 hb4;clear hb4;generalize wd2.heap.size=g6 at *;obtain ⟨gX,rfl⟩ : ∃ g,g=g6:=⟨_,rfl⟩
 clear x0 x1 x2 x3 x4 x5 x6 x7 x8 x9 hcell;have aK:=X.out.e0;have dh:=V.out.e1;go_wp2_with fail;clear aK dh;((with_reducible refine (aAL v.bool _).mono ?_);rintro e kL ⟨rfl,iR⟩);obtain ⟨S,V,X⟩:=b3 S V X iR;replace hw3:=dT hw3 iR;clear iR;exact zCm
theorem aJV {ts:List ay} (v:Val) (t:Nat) (x:ay) (hx:ts[t]?=some x) (hk:x.kind=2) (hn:I64 v.num) (aox:gI ts v (t:Nat)=akT v.num):aq7 ts v (t:Nat):=by
 obtain ⟨z,hz⟩ : ∃ z:Nat,zig v.num=(z:Int)∧oV z:=by
  have h:=TT v.num hn;exact ⟨(zig v.num).toNat,by omega,by unfold oV;omega⟩
 have HZ:=hiQ (fun W => aCb v.num hn W);rw [hz.1] at HZ;unfold akT at aox;rw [hz.1,Int.toNat_natCast] at aox;intro w A c vk vi vr ht hva hq;rw [aox] at hq ⊢;obtain ⟨D1,d1,D2,d2,D3,d3,rfl,rfl,rfl,-,-,-⟩:=hva.forms;have htl:t < ts.length:=(List.getElem?_eq_some_iff.1 hx).1;have hxt:ts[t]=x:=(List.getElem?_eq_some_iff.1 hx).2;obtain ⟨b,o,hA,RX,hel⟩:=ht.elem (by omega);subst hA;obtain ⟨vs,vm,hcell,hxa⟩:=hel t htl;rw [hxt] at hcell hxa;obtain ⟨C1,l1,C2,l2,rfl,rfl,-,-⟩:=hxa.forms;have HT:=hiQ ht;have HV:=hiQ hva;have Wj:=hiQ hxa;have hd0:decide ((t:Int) < 0)=false:=by simp
 have hd1:decide (ts.length≤t)=false:=by simpa using htl
 have aoo:(t:Int) < ts.length:=by omega
 clear ht hva hxa hel hxt hx aox;go_enter Tryz.func52,Tryz.ntmps52
 go_upto_region 1 with fail;refine jg (fun wd2 hb1 S V => ?_);have hw3:=hb1;clear hb1;have aH:=S.out.e0;obtain ⟨x0,x1,x2,x3,x4,x5,x6,x7,x8,x9⟩:=hcell.below hw3 RX;rw [hk] at x0;go_upto_region 2 with fail;clear aH;refine aO (fun fG hb4 X => ?_);have nI:=S.out.here;have mO:=V.out.here;have kH:=hw3.size;obtain ⟨S,V⟩:=b2 S V hb4;replace hw3:=dT hw3 hb4;clear hb4;generalize wd2.heap.size=g6 at *;obtain ⟨gX,rfl⟩ : ∃ g,g=g6:=⟨_,rfl⟩
 clear x0 x1 x2 x3 x4 x5 x6 x7 x8 x9 hcell;have aK:=X.out.e0;have dn:=V.out.e2;go_wp2_with fail;clear aK dn;((with_reducible refine (HZ.out _).mono ?_);rintro e kL ⟨rfl,rfl⟩);go_wp2_with fail;((with_reducible refine (azj z hz.2 _).mono ?_);rintro e lZ ⟨rfl,kR⟩);obtain ⟨S,V,X⟩:=b3 S V X kR;replace hw3:=dT hw3 kR;clear kR;exact zCm
theorem aJW {ts:List ay} (v:Val) (t:Nat) (x:ay) (hx:ts[t]?=some x) (hk:x.kind=4) (u:Nat) (hu:v.id=(u:Int)) (hu2:u≤1000) (aox:gI ts v (t:Nat)=pJ 9 u):aq7 ts v (t:Nat):=by
 have HU:=hiQ hu;clear hu;intro w A c vk vi vr ht hva hq;rw [aox] at hq ⊢;obtain ⟨D1,d1,D2,d2,D3,d3,rfl,rfl,rfl,-,-,-⟩:=hva.forms;have htl:t < ts.length:=(List.getElem?_eq_some_iff.1 hx).1;have hxt:ts[t]=x:=(List.getElem?_eq_some_iff.1 hx).2;obtain ⟨b,o,hA,RX,hel⟩:=ht.elem (by omega);subst hA;obtain ⟨vs,vm,hcell,hxa⟩:=hel t htl;rw [hxt] at hcell hxa;obtain ⟨C1,l1,C2,l2,rfl,rfl,-,-⟩:=hxa.forms;have HT:=hiQ ht;have HV:=hiQ hva;have Wj:=hiQ hxa;have hd0:decide ((t:Int) < 0)=false:=by simp
 have hd1:decide (ts.length≤t)=false:=by simpa using htl
 have aoo:(t:Int) < ts.length:=by omega
 clear ht hva hxa hel hxt hx aox;go_enter Tryz.func52,Tryz.ntmps52
 go_upto_region 1 with fail;refine jg (fun wd2 hb1 S V => ?_);have hw3:=hb1;clear hb1;have aH:=S.out.e0;obtain ⟨x0,x1,x2,x3,x4,x5,x6,x7,x8,x9⟩:=hcell.below hw3 RX;rw [hk] at x0;go_upto_region 2 with fail;clear aH;refine aO (fun fG hb4 X => ?_);have nI:=S.out.here;have mO:=V.out.here;have kH:=hw3.size;obtain ⟨S,V⟩:=b2 S V hb4;replace hw3:=dT hw3 hb4;clear hb4;generalize wd2.heap.size=g6 at *;obtain ⟨gX,rfl⟩ : ∃ g,g=g6:=⟨_,rfl⟩
 clear x0 x1 x2 x3 x4 x5 x6 x7 x8 x9 hcell;have aK:=X.out.e0;have bG:=V.out.e4;rw [HU.out] at bG;go_wp2_with fail;clear aK bG;((with_reducible refine (alA u (by omega) _).mono ?_);rintro e kL ⟨rfl,iR⟩);obtain ⟨S,V,X⟩:=b3 S V X iR;replace hw3:=dT hw3 iR;clear iR;exact zCm
theorem aJX {ts:List ay} (v:Val) (t:Nat) (x:ay) (hx:ts[t]?=some x) (hk:x.kind=3) (hsl:v.str.length≤1000) (aox:gI ts v (t:Nat)=pJ 9 v.str.length ++ v.str):aq7 ts v (t:Nat):=by
 have hpl:=bg v.str.length;have Ic:¬ 9223372036854775807 < (pJ 9 v.str.length).length+v.str.length:=by omega
 intro w A c vk vi vr ht hva hq;rw [aox] at hq ⊢;obtain ⟨D1,d1,D2,d2,D3,d3,rfl,rfl,rfl,-,-,-⟩:=hva.forms;have htl:t < ts.length:=(List.getElem?_eq_some_iff.1 hx).1;have hxt:ts[t]=x:=(List.getElem?_eq_some_iff.1 hx).2;obtain ⟨b,o,hA,RX,hel⟩:=ht.elem (by omega);subst hA;obtain ⟨vs,vm,hcell,hxa⟩:=hel t htl;rw [hxt] at hcell hxa;obtain ⟨C1,l1,C2,l2,rfl,rfl,-,-⟩:=hxa.forms;have HT:=hiQ ht;have HV:=hiQ hva;have Wj:=hiQ hxa;have hd0:decide ((t:Int) < 0)=false:=by simp
 have hd1:decide (ts.length≤t)=false:=by simpa using htl
 have aoo:(t:Int) < ts.length:=by omega
 clear ht hva hxa hel hxt hx aox;go_enter Tryz.func52,Tryz.ntmps52
 go_upto_region 1 with fail;refine jg (fun wd2 hb1 S V => ?_);have hw3:=hb1;clear hb1;have aH:=S.out.e0;obtain ⟨x0,x1,x2,x3,x4,x5,x6,x7,x8,x9⟩:=hcell.below hw3 RX;rw [hk] at x0;go_upto_region 2 with fail;clear aH;refine aO (fun fG hb4 X => ?_);have nI:=S.out.here;have mO:=V.out.here;have kH:=hw3.size;obtain ⟨S,V⟩:=b2 S V hb4;replace hw3:=dT hw3 hb4;clear hb4;generalize wd2.heap.size=g6 at *;obtain ⟨gX,rfl⟩ : ∃ g,g=g6:=⟨_,rfl⟩
 clear x0 x1 x2 x3 x4 x5 x6 x7 x8 x9 hcell;have aK:=X.out.e0;go_upto_region 8 with fail;clear aK;have dI:=V.out.e3;refine wp_region_held_drew (S:=(fun w' => w'.cell? ⟨w.heap.size+1,3,none⟩=some (.string ⟨v.str.toArray⟩))) (by kernel_rfl) dI (fun hHeld => ?_);clear dI;have aY:Below fG.heap.size fG (fG.drew):=(Below.refl _ _).drew;obtain ⟨S,V,X⟩:=b3 S V X aY;replace hw3:=dT hw3 aY;clear aY;generalize fG.drew=dw at *;refine tk 0 ?_;refine tk 1 ?_;refine tk 2 ?_;refine tk 4 ?_;refine tk 5 ?_;refine iE 3 fun K hK => ?_;go_simp;((with_reducible refine (alA v.str.length (by omega) _).mono ?_);rintro e lZ ⟨rfl,kR⟩);obtain ⟨S,V,X⟩:=b3 S V X kR;replace hw3:=dT hw3 kR;clear kR;(try clear hHeld);refine hK.out _ _ (V.out.cell 3) (fun hHeld => ?_);clear hK K;refine tk 6 ?_;refine tk 7 ?_;exact zIf
theorem aJY {ts:List ay} (v:Val) (t:Nat) (x:ay) (hx:ts[t]?=some x) (hk:x.kind=5) (hln:v.items.length=x.ah.length) (hsm:x.ah.length≤1000) (aox:gI ts v (t:Nat)=ajD ts v.items x.ah)
  (ih:∀ (j:Nat) (y:Val) (m:Mem),v.items[j]?=some y→x.ah[j]?=some m→aq7 ts y m.ty):aq7 ts v (t:Nat):=by
 obtain ⟨L,hL⟩ : ∃ L,L=List.zipWith (fun y (m:Mem) => gI ts y m.ty) v.items x.ah:=⟨_,rfl⟩
 rw [aD2,← hL] at aox;have hLl:L.length=x.ah.length:=by rw [hL,List.length_zipWith];omega
 have hLj:∀ (j:Nat) (y:Val) (m:Mem),v.items[j]?=some y→x.ah[j]?=some m→L[j]?=some (gI ts y m.ty):=fun j y m h1 h2 => by rw [hL,List.getElem?_zipWith,h1,h2]
 have HLJ:=hiQ hLj;have HIH:=hiQ ih;have HLN:=hiQ hln;clear hL hLj ih hln;intro w A c vk vi vr ht hva hq;rw [aox] at hq ⊢;obtain ⟨D1,d1,D2,d2,D3,d3,rfl,rfl,rfl,-,-,-⟩:=hva.forms;have htl:t < ts.length:=(List.getElem?_eq_some_iff.1 hx).1;have hxt:ts[t]=x:=(List.getElem?_eq_some_iff.1 hx).2;obtain ⟨b,o,hA,RX,hel⟩:=ht.elem (by omega);subst hA;obtain ⟨vs,vm,hcell,hxa⟩:=hel t htl;rw [hxt] at hcell hxa;obtain ⟨C1,l1,C2,l2,rfl,rfl,-,-⟩:=hxa.forms;have HT:=hiQ ht;have HV:=hiQ hva;have Wj:=hiQ hxa;have hd0:decide ((t:Int) < 0)=false:=by simp
 have hd1:decide (ts.length≤t)=false:=by simpa using htl
 have aoo:(t:Int) < ts.length:=by omega
 clear ht hva hxa hel hxt hx aox;go_enter Tryz.func52,Tryz.ntmps52
 go_upto_region 1 with fail;refine jg (fun wd2 hb1 S V => ?_);have hw3:=hb1;clear hb1;have aH:=S.out.e0;obtain ⟨x0,x1,x2,x3,x4,x5,x6,x7,x8,x9⟩:=hcell.below hw3 RX;rw [hk] at x0;go_upto_region 2 with fail;clear aH;refine aO (fun fG hb4 X => ?_);have nI:=S.out.here;have mO:=V.out.here;have kH:=hw3.size;obtain ⟨S,V⟩:=b2 S V hb4;replace hw3:=dT hw3 hb4;clear hb4;generalize wd2.heap.size=g6 at *;obtain ⟨gX,rfl⟩ : ∃ g,g=g6:=⟨_,rfl⟩
 clear x0 x1 x2 x3 x4 x5 x6 x7 x8 x9 hcell;have hS0:=S.out;have hV0:=V.out;have hX0:=X.out;have aK:=X.out.e0;go_upto_region 18 with fail;clear aK;go_loopw [10,11] (fun s10 s11 wr => ∃ j:Nat,j≤x.ah.length∧s11 = .int .i64 j∧s10 = .string ⟨((L.take j).flatten).toArray⟩∧Below w.heap.size w wr∧Has wr w.heap.size 25 #[.slice (some ⟨b,o,none⟩) ts.length c]∧Has wr (w.heap.size+1) 81 #[.int .i64 v.kind,.bool v.bool,.int .i64 v.num,.string ⟨v.str.toArray⟩,.int .i64 v.id,.slice D1 v.keys.length d1,.slice D2 v.items.length d2,.slice D3 v.rest.length d3]∧Has wr gX 71 #[.int .i64 5,.string ⟨x.name.toArray⟩,.int .i64 x.low,.int .i64 x.high,.int .i64 x.max,.slice C1 x.syms.length l1,.slice C2 x.ah.length l2,.int .i64 x.key,.int .i64 x.elem,.bool x.opn]) (fun _ s11 _ => x.ah.length - (intOf s11).toNat)
 case atStart => exact ⟨0,Nat.zero_le _,rfl,rfl,hw3,hS0,hV0,hX0⟩
 case round =>
  clear S V X hS0 hV0 hX0;obtain ⟨j,hjl,rfl,rfl,hb0,S,V,X⟩:=hrel;replace S:=hiQ S;replace V:=hiQ V;replace X:=hiQ X;by_cases hlt:j < x.ah.length
  ·
   have hlt2:j < v.items.length:=by have:=HLN.out;omega
   obtain ⟨b6,o6,hC2,hb6,hc6⟩:=Wj.out.ah.elem (by omega);obtain ⟨k1,k2,k3,hmc,-⟩:=hc6 j hlt;obtain ⟨b7,oq7,hD2,hb7,Z4⟩:=HV.out.items.elem (by omega);obtain ⟨z1,z2,z3,GX,hyv⟩:=Z4 j hlt2;have hy:=List.getElem?_eq_getElem hlt2;have hm:=List.getElem?_eq_getElem hlt;have TK:=HLJ.out j _ _ hy hm;have ax8:=HIH.out j _ _ hy hm;have V5:j < L.length:=by omega
   rw [List.getElem?_eq_getElem V5] at TK;have hle:=ay4 L j V5;have hnx:=aAM L j V5;rw [Option.some.inj TK] at hle hnx;replace hmc:=(aD1 hmc hb0 hb6).2.2.1;replace GX:=GX.below hb0 hb7;generalize x.ah[j]=m at *;generalize v.items[j]=y at *;obtain ⟨Y1,y1,Y2,y2,Y3,y3,rfl,rfl,rfl,-,-,-⟩:=hyv.forms;have HYV:=hiQ hyv;have OM:=hiQ ax8;have Y4:=hiQ hnx;obtain ⟨pz,hpz⟩ : ∃ p,p=(L.take j).flatten:=⟨_,rfl⟩
   rw [← hpz] at hle ⊢;have HPZ:=hiQ hpz;have Ic:¬ 9223372036854775807 < pz.length+(gI ts y m.ty).length:=by omega
   have KM:=hiQ (aD3 hmc);have KY:=hiQ (aoN GX (by have:=hb0.size;omega));have hi1:(j:Int) < x.ah.length:=by omega
   have hi2:(j:Int) < v.items.length:=by omega
   have hd2:decide ((j:Int) < 0)=false:=by simp
   have hd3:decide (x.ah.length≤j)=false:=by simpa using hlt
   have hd4:decide (v.items.length≤j)=false:=by simpa using hlt2
   clear hc6 Z4 hy hm TK ax8 GX hyv hnx hmc hpz;subst hC2 hD2;have aP:=V.out.e6;have aK:=X.out.e0;go_upto_region 21 with fail;clear aP aK;have aH:=S.out.e0;have bU:=X.out.e6;have aP:=V.out.e6;refine wp_region_held_drew (S:=(fun w' => w'.cell? ⟨w.heap.size,0,none⟩=some (.slice (some ⟨b,o,none⟩) ts.length c)∧w'.cell? ⟨gX,6,none⟩=some (.slice (some ⟨b6,o6,none⟩) x.ah.length l2)∧w'.cell? ⟨w.heap.size+1,6,none⟩=some (.slice (some ⟨b7,oq7,none⟩) v.items.length d2)∧(w'.cell? ⟨b6,o6+j*13+2,none⟩=some (.int .i64 m.ty))∧(avu w' b7 (oq7+j*8) y (.slice Y1 y.keys.length y1) (.slice Y2 y.items.length y2) (.slice Y3 y.rest.length y3)))) (by kernel_rfl) ⟨aH,bU,aP,(KM.out.now),(KY.out.now)⟩ (fun hHeld => ?_);clear aH bU aP;have aY:Below wr.heap.size wr (wr.drew):=(Below.refl _ _).drew;obtain ⟨S,V,X,KM,KY⟩:=b5 S V X KM KY aY;replace hb0:=dT hb0 aY;clear aY;generalize wr.drew=dw at *;refine tk 0 ?_;refine tk 1 ?_;refine tk 2 ?_;refine tk 3 ?_;refine tk 4 ?_;refine tk 5 ?_;refine tk 6 ?_;refine tk 7 ?_;refine tk 8 ?_;refine tk 9 ?_;refine tk 10 ?_;refine tk 11 ?_;refine tk 12 ?_;refine iE 13 fun K hK => ?_;go_simp;((with_reducible refine (OM.out _ _ _ _ _ _ (HT.out.on hb0) (HYV.out.on hb0) (by omega)).mono ?_);rintro e lZ ⟨rfl,kR⟩);obtain ⟨S,V,X,KM,KY⟩:=b5 S V X KM KY kR;replace hb0:=dT hb0 kR;clear kR;(try clear hHeld);refine hK.out _ _ (⟨S.out.cell 0,⟨X.out.cell 6,⟨V.out.cell 6,⟨(KM.out.now),(KY.out.now)⟩⟩⟩⟩) (fun hHeld => ?_);clear hK K;refine tk 14 ?_;refine tk 15 ?_;refine wpAnyH_done (by kernel_rfl) ?_ _
   (try clear hHeld);clear KM KY;go_wp2_with fail;go_roundw
   case rel => exact ⟨j+1,by omega,by go_num,by rw [Y4.out,← HPZ.out,qO],hb0,S.out,V.out,X.out⟩
   case measure => simp [intOf];omega
  obtain rfl:j=x.ah.length:=by omega
  rw [List.take_of_length_le (by omega)];have hlt3:¬ x.ah.length < v.items.length:=by have:=HLN.out;omega
  have hlt4:¬ (x.ah.length:Int) < v.items.length:=by omega
  have aP:=V.out.e6;go_wp2_with fail;go_ret;exact ⟨rfl,hb0⟩
theorem zAt {p:Prop} (h:p:=by exact ⟨S.out.cell 0,⟨X.out.cell 6,⟨V.out.cell 4,⟨V.out.cell 6,⟨(KM.out.now),(KY.out.now)⟩⟩⟩⟩⟩):p:=h
theorem aJZ {ts:List ay} (v:Val) (t:Nat) (x:ay) (hx:ts[t]?=some x) (hk:x.kind=6) (i u:Nat) (m:Mem) (y:Val) (lY:dN x v.id=some i) (hm:x.ah[i]?=some m) (hy:v.items[0]?=some y) (hu:v.id=(u:Int)) (hu2:u≤1000)
  (aox:gI ts v (t:Nat)=pJ 9 u ++ gI ts y m.ty) (ih:aq7 ts y m.ty):aq7 ts v (t:Nat):=by
 have HIH:=hiQ ih;have hil:i < x.ah.length:=(List.getElem?_eq_some_iff.1 hm).1;have hyl:0 < v.items.length:=(List.getElem?_eq_some_iff.1 hy).1;have HM:=hiQ hm;have HY:=hiQ hy;rw [hu] at lY;have h0:xg (dN x (u:Int)) = .tuple #[.int .i64 (i:Nat),.bool true]:=by rw [lY];rfl
 have hpl:=bg u;have Eh:=hiQ (fun (vs vm:Value) (W:World) h => aFU x vs vm (u:Int) W h);simp only [h0,dA,hk] at Eh;have HU:=hiQ hu;clear ih hm hy lY h0 hu;intro w A c vk vi vr ht hva hq;rw [aox] at hq ⊢;obtain ⟨D1,d1,D2,d2,D3,d3,rfl,rfl,rfl,-,-,-⟩:=hva.forms;have htl:t < ts.length:=(List.getElem?_eq_some_iff.1 hx).1;have hxt:ts[t]=x:=(List.getElem?_eq_some_iff.1 hx).2;obtain ⟨b,o,hA,RX,hel⟩:=ht.elem (by omega);subst hA;obtain ⟨vs,vm,hcell,hxa⟩:=hel t htl;rw [hxt] at hcell hxa;obtain ⟨C1,l1,C2,l2,rfl,rfl,-,-⟩:=hxa.forms;have HT:=hiQ ht;have HV:=hiQ hva;have Wj:=hiQ hxa;have hd0:decide ((t:Int) < 0)=false:=by simp
 have hd1:decide (ts.length≤t)=false:=by simpa using htl
 have aoo:(t:Int) < ts.length:=by omega
 clear ht hva hxa hel hxt hx aox;go_enter Tryz.func52,Tryz.ntmps52
 go_upto_region 1 with fail;refine jg (fun wd2 hb1 S V => ?_);have hw3:=hb1;clear hb1;have aH:=S.out.e0;obtain ⟨x0,x1,x2,x3,x4,x5,x6,x7,x8,x9⟩:=hcell.below hw3 RX;rw [hk] at x0;go_upto_region 2 with fail;clear aH;refine aO (fun fG hb4 X => ?_);have nI:=S.out.here;have mO:=V.out.here;have kH:=hw3.size;obtain ⟨S,V⟩:=b2 S V hb4;replace hw3:=dT hw3 hb4;clear hb4;generalize wd2.heap.size=g6 at *;obtain ⟨gX,rfl⟩ : ∃ g,g=g6:=⟨_,rfl⟩
 clear x0 x1 x2 x3 x4 x5 x6 x7 x8 x9 hcell;rw [List.length_append] at hq;have Ic:¬ 9223372036854775807 < (pJ 9 u).length+(gI ts y m.ty).length:=by omega
 obtain ⟨aK,bJ,bY,bZ,dL,eX,bU,dD,dM,dU⟩:=X.out.c10;have bG:=V.out.e4;rw [HU.out] at bG;go_wp2_with fail;clear aK bJ bY bZ dL eX bU dD dM dU bG;((with_reducible refine (Eh.out _ _ _ (Wj.out.on hw3)).mono ?_);rintro e kL ⟨rfl,iR⟩);obtain ⟨S,V,X⟩:=b3 S V X iR;replace hw3:=dT hw3 iR;clear iR;obtain ⟨b6,o6,hC2,hb6,hc6⟩:=Wj.out.ah.elem (by omega);obtain ⟨k1,k2,k3,hmc,-⟩:=hc6 i hil;obtain ⟨b7,oq7,hD2,hb7,Z4⟩:=HV.out.items.elem (by omega);obtain ⟨z1,z2,z3,GX,hyv⟩:=Z4 0 hyl;rw [(List.getElem?_eq_some_iff.1 HM.out).2] at hmc;rw [(List.getElem?_eq_some_iff.1 HY.out).2] at GX hyv;rw [Nat.zero_mul,Nat.add_zero] at GX;replace hmc:=(aD1 hmc hw3 hb6).2.2.1;replace GX:=GX.below hw3 hb7;obtain ⟨Y1,y1,Y2,y2,Y3,y3,rfl,rfl,rfl,-,-,-⟩:=hyv.forms;have HYV:=hiQ hyv;have KM:=hiQ (aD3 hmc);have KY:=hiQ (aoN GX (by have:=hw3.size;omega));have hi1:(i:Int) < x.ah.length:=by omega
 have hi2:(0:Int) < v.items.length:=by omega
 have hd2:decide ((i:Int) < 0)=false:=by simp
 have hd3:decide (x.ah.length≤i)=false:=by simpa using hil
 have hd4:decide (v.items.length≤0)=false:=decide_eq_false (by omega);have hd5:¬ v.items = []:=fun e => by rw [e] at hyl;simp at hyl
 clear hc6 Z4 GX hyv hmc;subst hC2 hD2;go_upto_region 13 with fail;obtain ⟨iv,hiv,aMt⟩ : ∃ iv:Int,iv=v.id∧iv=(u:Nat):=⟨_,rfl,HU.out⟩
 have aH:=S.out.e0;have bU:=X.out.e6;have bG:=V.out.e4;have aP:=V.out.e6;refine wp_region_held_drew (S:=(fun w' => w'.cell? ⟨w.heap.size,0,none⟩=some (.slice (some ⟨b,o,none⟩) ts.length c)∧w'.cell? ⟨gX,6,none⟩=some (.slice (some ⟨b6,o6,none⟩) x.ah.length l2)∧w'.cell? ⟨w.heap.size+1,4,none⟩=some (.int .i64 v.id)∧w'.cell? ⟨w.heap.size+1,6,none⟩=some (.slice (some ⟨b7,oq7,none⟩) v.items.length d2)∧(w'.cell? ⟨b6,o6+i*13+2,none⟩=some (.int .i64 m.ty))∧(avu w' b7 oq7 y (.slice Y1 y.keys.length y1) (.slice Y2 y.items.length y2) (.slice Y3 y.rest.length y3)))) (by kernel_rfl) ⟨aH,bU,bG,aP,(KM.out.now),(KY.out.now)⟩ (fun hHeld => ?_);clear aH bU bG aP;have fV:Below kL.heap.size kL (kL.drew):=(Below.refl _ _).drew;obtain ⟨S,V,X,KM,KY⟩:=b5 S V X KM KY fV;replace hw3:=dT hw3 fV;clear fV;generalize kL.drew=dQ at *;refine tk 0 ?_;refine tk 1 ?_;refine tk 3 ?_;refine tk 4 ?_;refine tk 5 ?_;refine tk 6 ?_;refine tk 7 ?_;refine tk 8 ?_;refine tk 9 ?_;refine tk 10 ?_;refine tk 11 ?_;refine tk 12 ?_;refine tk 13 ?_;refine iE 2 fun K hK => ?_;go_simp;rw [HU.out];((with_reducible refine (alA u (by omega) _).mono ?_);rintro e oZ ⟨rfl,o7⟩);obtain ⟨S,V,X,KM,KY⟩:=b5 S V X KM KY o7;replace hw3:=dT hw3 o7;clear o7;(try clear hHeld);refine hK.out _ _ zAt (fun hHeld => ?_);clear hK K;refine iE 14 fun K hK => ?_;go_simp;((with_reducible refine (HIH.out _ _ _ _ _ _ (HT.out.on hw3) (HYV.out.on hw3) (by omega)).mono ?_);rintro e yN ⟨rfl,mG⟩);obtain ⟨S,V,X,KM,KY⟩:=b5 S V X KM KY mG;replace hw3:=dT hw3 mG;clear mG
 (try clear hHeld);refine hK.out _ _ zAt (fun hHeld => ?_);clear hK K;refine tk 15 ?_;refine tk 16 ?_;exact zIf
theorem zAu {p:Prop} (h:p:=by exact ⟨S.out.cell 0,⟨X.out.cell 8,⟨V.out.cell 6,(KY.out.now)⟩⟩⟩):p:=h
theorem zBn {p:Prop} (h:p:=by
 clear S V X hS0 hV0 hX0;obtain ⟨j,hjl,rfl,rfl,hb0,S,V,X⟩:=hrel;replace S:=hiQ S;replace V:=hiQ V;replace X:=hiQ X;by_cases hlt2:j < v.items.length
 ·
  obtain ⟨b7,oq7,hD2,hb7,Z4⟩:=HV.out.items.elem (by omega);obtain ⟨z1,z2,z3,GX,hyv⟩:=Z4 j hlt2;have hy:=List.getElem?_eq_getElem hlt2;have TK:=HLJ.out j _ hy;have ax8:=HIH.out j _ hy;have V5:j < L.length:=by have:=YW.out;omega
  rw [List.getElem?_eq_getElem V5] at TK;have hle:=ay4 L j V5;have hnx:=aAM L j V5;rw [Option.some.inj TK] at hle hnx;replace GX:=GX.below hb0 hb7;generalize v.items[j]=y at *;obtain ⟨Y1,y1,Y2,y2,Y3,y3,rfl,rfl,rfl,-,-,-⟩:=hyv.forms;have HYV:=hiQ hyv;have OM:=hiQ ax8;have Y4:=hiQ hnx;obtain ⟨pr,hpr⟩ : ∃ p,p=p0 ++ (L.take j).flatten:=⟨_,rfl⟩
  have aHO:pr.length=p0.length+((L.take j).flatten).length:=by rw [hpr,List.length_append]
  rw [← hpr];have HPR:=hiQ hpr;have Ic:¬ 9223372036854775807 < pr.length+(gI ts y x.elem).length:=by omega
  have aFV:(gI ts y x.elem).length≤10000000000000:=by omega
  have KY:=hiQ (aoN GX (by have:=hb0.size;omega));have hi2:(j:Int) < v.items.length:=by omega
  have hd2:decide ((j:Int) < 0)=false:=by simp
  have hd4:decide (v.items.length≤j)=false:=by simpa using hlt2
  clear Z4 hy TK ax8 GX hyv hnx hpr hle aHO;subst hD2;have aP:=V.out.e6;have aK:=X.out.e0;go_upto_region 24 with fail;clear aP aK;have aH:=S.out.e0;have dM:=X.out.e8;have aP:=V.out.e6;refine wp_region_held_drew (S:=(fun w' => w'.cell? ⟨w.heap.size,0,none⟩=some (.slice (some ⟨b,o,none⟩) ts.length c)∧w'.cell? ⟨gX,8,none⟩=some (.int .i64 x.elem)∧w'.cell? ⟨w.heap.size+1,6,none⟩=some (.slice (some ⟨b7,oq7,none⟩) v.items.length d2)∧(avu w' b7 (oq7+j*8) y (.slice Y1 y.keys.length y1) (.slice Y2 y.items.length y2) (.slice Y3 y.rest.length y3)))) (by kernel_rfl) ⟨aH,dM,aP,(KY.out.now)⟩ (fun hHeld => ?_);clear aH dM aP;have fV:Below wr.heap.size wr (wr.drew):=(Below.refl _ _).drew;obtain ⟨S,V,X,KY⟩:=b4 S V X KY fV;replace hb0:=dT hb0 fV;clear fV;generalize wr.drew=dQ at *;refine tk 0 ?_;refine tk 1 ?_;refine tk 2 ?_;refine tk 3 ?_;refine tk 4 ?_;refine tk 5 ?_;refine tk 6 ?_;refine tk 7 ?_;refine tk 8 ?_;refine iE 9 fun K hK => ?_;go_simp;((with_reducible refine (OM.out _ _ _ _ _ _ (HT.out.on hb0) (HYV.out.on hb0) aFV).mono ?_);rintro e oZ ⟨rfl,o7⟩);obtain ⟨S,V,X,KY⟩:=b4 S V X KY o7;replace hb0:=dT hb0 o7;clear o7;(try clear hHeld);refine hK.out _ _ zAu (fun hHeld => ?_);clear hK K;refine tk 10 ?_;refine tk 11 ?_;refine wpAnyH_done (by kernel_rfl) ?_ _;(try clear hHeld);clear KY;go_wp2_with fail;go_roundw
  case rel => exact ⟨j+1,by omega,by go_num,by rw [Y4.out,← List.append_assoc,← HPR.out,qO],hb0,S.out,V.out,X.out⟩
  case measure => simp [intOf];omega
 have hLl:=YW.out;obtain rfl:j=v.items.length:=by omega
 rw [List.take_of_length_le (by omega)];have aP:=V.out.e6;go_wp2_with fail;go_ret;exact ⟨by rw [HP0.out];rfl,hb0⟩):p:=h
theorem aIB {ts:List ay} (v:Val) (t:Nat) (x:ay) (hx:ts[t]?=some x) (hk:x.kind=7) (hln:v.items.length≤1000) (L:List (List UInt8)) (hLl:L.length=v.items.length) (aox:gI ts v (t:Nat)=pJ 9 v.items.length ++ L.flatten)
  (hLj:∀ (j:Nat) (y:Val),v.items[j]?=some y→L[j]?=some (gI ts y x.elem)) (ih:∀ (j:Nat) (y:Val),v.items[j]?=some y→aq7 ts y x.elem):aq7 ts v (t:Nat):=by
 have YW:=hiQ hLl;clear hLl;have HLJ:=hiQ hLj;have HIH:=hiQ ih;have hpl:=bg v.items.length;clear hLj ih;intro w A c vk vi vr ht hva hq;rw [aox] at hq ⊢;obtain ⟨D1,d1,D2,d2,D3,d3,rfl,rfl,rfl,-,-,-⟩:=hva.forms;have htl:t < ts.length:=(List.getElem?_eq_some_iff.1 hx).1;have hxt:ts[t]=x:=(List.getElem?_eq_some_iff.1 hx).2;obtain ⟨b,o,hA,RX,hel⟩:=ht.elem (by omega);subst hA;obtain ⟨vs,vm,hcell,hxa⟩:=hel t htl;rw [hxt] at hcell hxa;obtain ⟨C1,l1,C2,l2,rfl,rfl,-,-⟩:=hxa.forms;have HT:=hiQ ht;have HV:=hiQ hva;have Wj:=hiQ hxa;have hd0:decide ((t:Int) < 0)=false:=by simp
 have hd1:decide (ts.length≤t)=false:=by simpa using htl
 have aoo:(t:Int) < ts.length:=by omega
 clear ht hva hxa hel hxt hx aox;go_enter Tryz.func52,Tryz.ntmps52
 go_upto_region 1 with fail;refine jg (fun wd2 hb1 S V => ?_);have hw3:=hb1;clear hb1;have aH:=S.out.e0;obtain ⟨x0,x1,x2,x3,x4,x5,x6,x7,x8,x9⟩:=hcell.below hw3 RX;rw [hk] at x0;go_upto_region 2 with fail;clear aH;refine aO (fun fG hb4 X => ?_);have nI:=S.out.here;have mO:=V.out.here;have kH:=hw3.size;obtain ⟨S,V⟩:=b2 S V hb4;replace hw3:=dT hw3 hb4;clear hb4;generalize wd2.heap.size=g6 at *;obtain ⟨gX,rfl⟩ : ∃ g,g=g6:=⟨_,rfl⟩
 clear x0 x1 x2 x3 x4 x5 x6 x7 x8 x9 hcell;rw [List.length_append] at hq;obtain ⟨p0,hp0⟩ : ∃ p0,p0=pJ 9 v.items.length:=⟨_,rfl⟩
 have HP0:=hiQ hp0;rw [← hp0] at hq hpl ⊢;have aK:=X.out.e0;have aP:=V.out.e6;go_wp2_with fail;clear aK aP;((with_reducible refine (alA v.items.length (by omega) _).mono ?_);rintro e kL ⟨rfl,iR⟩);obtain ⟨S,V,X⟩:=b3 S V X iR;replace hw3:=dT hw3 iR;clear iR;rw [← HP0.out];clear hp0;have hS0:=S.out;have hV0:=V.out;have hX0:=X.out;go_upto_region 18 with fail;go_loopw [10,11] (fun s10 s11 wr => ∃ j:Nat,j≤v.items.length∧s11 = .int .i64 j∧s10 = .string ⟨(p0 ++ (L.take j).flatten).toArray⟩∧Below w.heap.size w wr∧Has wr w.heap.size 25 #[.slice (some ⟨b,o,none⟩) ts.length c]∧Has wr (w.heap.size+1) 81 #[.int .i64 v.kind,.bool v.bool,.int .i64 v.num,.string ⟨v.str.toArray⟩,.int .i64 v.id,.slice D1 v.keys.length d1,.slice D2 v.items.length d2,.slice D3 v.rest.length d3]∧Has wr gX 71 #[.int .i64 7,.string ⟨x.name.toArray⟩,.int .i64 x.low,.int .i64 x.high,.int .i64 x.max,.slice C1 x.syms.length l1,.slice C2 x.ah.length l2,.int .i64 x.key,.int .i64 x.elem,.bool x.opn]) (fun _ s11 _ => v.items.length - (intOf s11).toNat)
 case atStart => exact ⟨0,Nat.zero_le _,rfl,by simp,hw3,hS0,hV0,hX0⟩
 case round =>
  exact zBn
theorem aIC {ts:List ay} (v:Val) (t:Nat) (x:ay) (hx:ts[t]?=some x) (hk:x.kind=9) (hln:v.items.length≤1000) (L:List (List UInt8)) (hLl:L.length=v.items.length) (aox:gI ts v (t:Nat)=pJ 9 v.items.length ++ L.flatten)
  (hLj:∀ (j:Nat) (y:Val),v.items[j]?=some y→L[j]?=some (gI ts y x.elem)) (ih:∀ (j:Nat) (y:Val),v.items[j]?=some y→aq7 ts y x.elem):aq7 ts v (t:Nat):=by
 have YW:=hiQ hLl;clear hLl;have HLJ:=hiQ hLj;have HIH:=hiQ ih;have hpl:=bg v.items.length;clear hLj ih;intro w A c vk vi vr ht hva hq;rw [aox] at hq ⊢;obtain ⟨D1,d1,D2,d2,D3,d3,rfl,rfl,rfl,-,-,-⟩:=hva.forms;have htl:t < ts.length:=(List.getElem?_eq_some_iff.1 hx).1;have hxt:ts[t]=x:=(List.getElem?_eq_some_iff.1 hx).2;obtain ⟨b,o,hA,RX,hel⟩:=ht.elem (by omega);subst hA;obtain ⟨vs,vm,hcell,hxa⟩:=hel t htl;rw [hxt] at hcell hxa;obtain ⟨C1,l1,C2,l2,rfl,rfl,-,-⟩:=hxa.forms;have HT:=hiQ ht;have HV:=hiQ hva;have Wj:=hiQ hxa;have hd0:decide ((t:Int) < 0)=false:=by simp
 have hd1:decide (ts.length≤t)=false:=by simpa using htl
 have aoo:(t:Int) < ts.length:=by omega
 clear ht hva hxa hel hxt hx aox;go_enter Tryz.func52,Tryz.ntmps52
 go_upto_region 1 with fail;refine jg (fun wd2 hb1 S V => ?_);have hw3:=hb1;clear hb1;have aH:=S.out.e0;obtain ⟨x0,x1,x2,x3,x4,x5,x6,x7,x8,x9⟩:=hcell.below hw3 RX;rw [hk] at x0;go_upto_region 2 with fail;clear aH;refine aO (fun fG hb4 X => ?_);have nI:=S.out.here;have mO:=V.out.here;have kH:=hw3.size;obtain ⟨S,V⟩:=b2 S V hb4;replace hw3:=dT hw3 hb4;clear hb4;generalize wd2.heap.size=g6 at *;obtain ⟨gX,rfl⟩ : ∃ g,g=g6:=⟨_,rfl⟩
 clear x0 x1 x2 x3 x4 x5 x6 x7 x8 x9 hcell;rw [List.length_append] at hq;obtain ⟨p0,hp0⟩ : ∃ p0,p0=pJ 9 v.items.length:=⟨_,rfl⟩
 have HP0:=hiQ hp0;rw [← hp0] at hq hpl ⊢;have aK:=X.out.e0;have aP:=V.out.e6;go_wp2_with fail;clear aK aP;((with_reducible refine (alA v.items.length (by omega) _).mono ?_);rintro e kL ⟨rfl,iR⟩);obtain ⟨S,V,X⟩:=b3 S V X iR;replace hw3:=dT hw3 iR;clear iR;rw [← HP0.out];clear hp0;have hS0:=S.out;have hV0:=V.out;have hX0:=X.out;go_upto_region 18 with fail;go_loopw [10,11] (fun s10 s11 wr => ∃ j:Nat,j≤v.items.length∧s11 = .int .i64 j∧s10 = .string ⟨(p0 ++ (L.take j).flatten).toArray⟩∧Below w.heap.size w wr∧Has wr w.heap.size 25 #[.slice (some ⟨b,o,none⟩) ts.length c]∧Has wr (w.heap.size+1) 81 #[.int .i64 v.kind,.bool v.bool,.int .i64 v.num,.string ⟨v.str.toArray⟩,.int .i64 v.id,.slice D1 v.keys.length d1,.slice D2 v.items.length d2,.slice D3 v.rest.length d3]∧Has wr gX 71 #[.int .i64 9,.string ⟨x.name.toArray⟩,.int .i64 x.low,.int .i64 x.high,.int .i64 x.max,.slice C1 x.syms.length l1,.slice C2 x.ah.length l2,.int .i64 x.key,.int .i64 x.elem,.bool x.opn]) (fun _ s11 _ => v.items.length - (intOf s11).toNat)
 case atStart => exact ⟨0,Nat.zero_le _,rfl,by simp,hw3,hS0,hV0,hX0⟩
 case round =>
  exact zBn
theorem aJ0 {ts:List ay} (v:Val) (t:Nat) (x:ay) (hx:ts[t]?=some x) (hk:x.kind=8) (hln:v.items.length≤1000) (hkn:v.keys.length=v.items.length) (L:List (List UInt8)) (hLl:L.length=v.items.length) (aox:gI ts v (t:Nat)=pJ 9 v.items.length ++ L.flatten)
  (hLj:∀ (j:Nat) (z y:Val),v.keys[j]?=some z→v.items[j]?=some y→L[j]?=some (gI ts z x.key ++ gI ts y x.elem)) (ih:∀ (j:Nat) (z y:Val),v.keys[j]?=some z→v.items[j]?=some y→aq7 ts z x.key∧aq7 ts y x.elem):aq7 ts v (t:Nat):=by
 have YW:=hiQ hLl;have HKN:=hiQ hkn;clear hLl hkn;have HLJ:=hiQ hLj;have HIH:=hiQ ih;have hpl:=bg v.items.length;clear hLj ih;intro w A c vk vi vr ht hva hq;rw [aox] at hq ⊢;obtain ⟨D1,d1,D2,d2,D3,d3,rfl,rfl,rfl,-,-,-⟩:=hva.forms;have htl:t < ts.length:=(List.getElem?_eq_some_iff.1 hx).1;have hxt:ts[t]=x:=(List.getElem?_eq_some_iff.1 hx).2;obtain ⟨b,o,hA,RX,hel⟩:=ht.elem (by omega);subst hA;obtain ⟨vs,vm,hcell,hxa⟩:=hel t htl;rw [hxt] at hcell hxa;obtain ⟨C1,l1,C2,l2,rfl,rfl,-,-⟩:=hxa.forms;have HT:=hiQ ht;have HV:=hiQ hva;have Wj:=hiQ hxa;have hd0:decide ((t:Int) < 0)=false:=by simp
 have hd1:decide (ts.length≤t)=false:=by simpa using htl
 have aoo:(t:Int) < ts.length:=by omega
 clear ht hva hxa hel hxt hx aox;go_enter Tryz.func52,Tryz.ntmps52
 go_upto_region 1 with fail;refine jg (fun wd2 hb1 S V => ?_);have hw3:=hb1;clear hb1;have aH:=S.out.e0;obtain ⟨x0,x1,x2,x3,x4,x5,x6,x7,x8,x9⟩:=hcell.below hw3 RX;rw [hk] at x0;go_upto_region 2 with fail;clear aH;refine aO (fun fG hb4 X => ?_);have nI:=S.out.here;have mO:=V.out.here;have kH:=hw3.size;obtain ⟨S,V⟩:=b2 S V hb4;replace hw3:=dT hw3 hb4;clear hb4;generalize wd2.heap.size=g6 at *;obtain ⟨gX,rfl⟩ : ∃ g,g=g6:=⟨_,rfl⟩
 clear x0 x1 x2 x3 x4 x5 x6 x7 x8 x9 hcell;rw [List.length_append] at hq;obtain ⟨p0,hp0⟩ : ∃ p0,p0=pJ 9 v.items.length:=⟨_,rfl⟩
 have HP0:=hiQ hp0;rw [← hp0] at hq hpl ⊢;have aK:=X.out.e0;have aP:=V.out.e6;go_wp2_with fail;clear aK aP;((with_reducible refine (alA v.items.length (by omega) _).mono ?_);rintro e kL ⟨rfl,iR⟩);obtain ⟨S,V,X⟩:=b3 S V X iR;replace hw3:=dT hw3 iR;clear iR;rw [← HP0.out];clear hp0;have hS0:=S.out;have hV0:=V.out;have hX0:=X.out;go_upto_region 18 with fail;go_loopw [10,11] (fun s10 s11 wr => ∃ j:Nat,j≤v.items.length∧s11 = .int .i64 j∧s10 = .string ⟨(p0 ++ (L.take j).flatten).toArray⟩∧Below w.heap.size w wr∧Has wr w.heap.size 25 #[.slice (some ⟨b,o,none⟩) ts.length c]∧Has wr (w.heap.size+1) 81 #[.int .i64 v.kind,.bool v.bool,.int .i64 v.num,.string ⟨v.str.toArray⟩,.int .i64 v.id,.slice D1 v.keys.length d1,.slice D2 v.items.length d2,.slice D3 v.rest.length d3]∧Has wr gX 71 #[.int .i64 8,.string ⟨x.name.toArray⟩,.int .i64 x.low,.int .i64 x.high,.int .i64 x.max,.slice C1 x.syms.length l1,.slice C2 x.ah.length l2,.int .i64 x.key,.int .i64 x.elem,.bool x.opn]) (fun _ s11 _ => v.items.length - (intOf s11).toNat)
 case atStart => exact ⟨0,Nat.zero_le _,rfl,by simp,hw3,hS0,hV0,hX0⟩
 case round =>
  clear S V X hS0 hV0 hX0;obtain ⟨j,hjl,rfl,rfl,hb0,S,V,X⟩:=hrel;replace S:=hiQ S;replace V:=hiQ V;replace X:=hiQ X;by_cases hlt2:j < v.items.length
  ·
   have hlt1:j < v.keys.length:=by have:=HKN.out;omega
   obtain ⟨b7,oq7,hD2,hb7,Z4⟩:=HV.out.items.elem (by omega);obtain ⟨z1,z2,z3,GX,hyv⟩:=Z4 j hlt2;obtain ⟨b8,oq8,hD1,hb8,hc8⟩:=HV.out.keys.elem (by omega);obtain ⟨z4,z5,z6,hzc,hzv⟩:=hc8 j hlt1;have hy:=List.getElem?_eq_getElem hlt2;have hz:=List.getElem?_eq_getElem hlt1;have TK:=HLJ.out j _ _ hz hy;have ax8:=HIH.out j _ _ hz hy;have V5:j < L.length:=by have:=YW.out;omega
   rw [List.getElem?_eq_getElem V5] at TK;have hle:=ay4 L j V5;have hnx:=aAM L j V5;rw [Option.some.inj TK] at hle hnx;replace GX:=GX.below hb0 hb7;replace hzc:=hzc.below hb0 hb8;generalize v.items[j]=y at *;generalize v.keys[j]=z at *;rw [List.length_append] at hle;obtain ⟨Y1,y1,Y2,y2,Y3,y3,rfl,rfl,rfl,-,-,-⟩:=hyv.forms;obtain ⟨Z1,n1,Z2,n2,Z3,n3,rfl,rfl,rfl,-,-,-⟩:=hzv.forms;have HYV:=hiQ hyv;have HZV:=hiQ hzv;have OM:=hiQ ax8;have Y4:=hiQ hnx;obtain ⟨pr,hpr⟩ : ∃ p,p=p0 ++ (L.take j).flatten:=⟨_,rfl⟩
   have aHO:pr.length=p0.length+((L.take j).flatten).length:=by rw [hpr,List.length_append]
   rw [← hpr];have HPR:=hiQ hpr;have Ic:¬ 9223372036854775807 < pr.length+(gI ts z x.key).length:=by omega
   have akm:¬ 9223372036854775807 < pr.length+(gI ts z x.key).length+(gI ts y x.elem).length:=by omega
   have aFV:(gI ts y x.elem).length≤10000000000000:=by omega
   have aK2:(gI ts z x.key).length≤10000000000000:=by omega
   have KY:=hiQ (aoN GX (by have:=hb0.size;omega));have KZq:=hiQ (aoN hzc (by have:=hb0.size;omega));have hi2:(j:Int) < v.items.length:=by omega
   have hi3:(j:Int) < v.keys.length:=by omega
   have hd2:decide ((j:Int) < 0)=false:=by simp
   have hd4:decide (v.items.length≤j)=false:=by simpa using hlt2
   have hd5:decide (v.keys.length≤j)=false:=by simpa using hlt1
   clear Z4 hc8 hy hz TK ax8 GX hzc hyv hzv hnx hpr hle aHO;subst hD2 hD1;have aP:=V.out.e6;have aK:=X.out.e0;go_upto_region 23 with fail;clear aP aK;have aH:=S.out.e0;have dD:=X.out.e7;have aQ:=V.out.e5;refine wp_region_held_drew (S:=(fun w' => w'.cell? ⟨w.heap.size,0,none⟩=some (.slice (some ⟨b,o,none⟩) ts.length c)∧w'.cell? ⟨gX,7,none⟩=some (.int .i64 x.key)∧w'.cell? ⟨w.heap.size+1,5,none⟩=some (.slice (some ⟨b8,oq8,none⟩) v.keys.length d1)∧(avu w' b8 (oq8+j*8) z (.slice Z1 z.keys.length n1) (.slice Z2 z.items.length n2) (.slice Z3 z.rest.length n3)))) (by kernel_rfl) ⟨aH,dD,aQ,(KZq.out.now)⟩ (fun hHeld => ?_);clear aH dD aQ;have fV:Below wr.heap.size wr (wr.drew):=(Below.refl _ _).drew;obtain ⟨S,V,X,KY,KZq⟩:=b5 S V X KY KZq fV;replace hb0:=dT hb0 fV;clear fV;generalize wr.drew=dQ at *;refine tk 0 ?_;refine tk 1 ?_;refine tk 2 ?_;refine tk 3 ?_;refine tk 4 ?_;refine tk 5 ?_;refine tk 6 ?_;refine tk 7 ?_;refine tk 8 ?_;refine iE 9 fun K hK => ?_;go_simp;((with_reducible refine (OM.out.1 _ _ _ _ _ _ (HT.out.on hb0) (HZV.out.on hb0) aK2).mono ?_);rintro e oZ ⟨rfl,o7⟩);obtain ⟨S,V,X,KY,KZq⟩:=b5 S V X KY KZq o7;replace hb0:=dT hb0 o7;clear o7;(try clear hHeld);refine hK.out _ _ (⟨S.out.cell 0,⟨X.out.cell 7,⟨V.out.cell 5,(KZq.out.now)⟩⟩⟩) (fun hHeld => ?_);clear hK K;refine tk 10 ?_;refine tk 11 ?_;refine wpAnyH_done (by kernel_rfl) ?_ _;(try clear hHeld);rw [qO];obtain ⟨pq,hpq⟩ : ∃ p,p=pr ++ gI ts z x.key:=⟨_,rfl⟩
   have aK3:pq.length=pr.length+(gI ts z x.key).length:=by rw [hpq,List.length_append]
   rw [← hpq];have HPQ:=hiQ hpq;have aKs:¬ 9223372036854775807 < pq.length+(gI ts y x.elem).length:=by omega
   clear hpq aK3 Ic akm;go_upto_region 24 with fail;have aH:=S.out.e0;have dM:=X.out.e8;have aP:=V.out.e6;refine wp_region_held_drew (S:=(fun w' => w'.cell? ⟨w.heap.size,0,none⟩=some (.slice (some ⟨b,o,none⟩) ts.length c)∧w'.cell? ⟨gX,8,none⟩=some (.int .i64 x.elem)∧w'.cell? ⟨w.heap.size+1,6,none⟩=some (.slice (some ⟨b7,oq7,none⟩) v.items.length d2)∧(avu w' b7 (oq7+j*8) y (.slice Y1 y.keys.length y1) (.slice Y2 y.items.length y2) (.slice Y3 y.rest.length y3)))) (by kernel_rfl) ⟨aH,dM,aP,(KY.out.now)⟩ (fun hHeld => ?_);clear aH dM aP;have hb16:Below oZ.heap.size oZ (oZ.drew):=(Below.refl _ _).drew;obtain ⟨S,V,X,KY,KZq⟩:=b5 S V X KY KZq hb16;replace hb0:=dT hb0 hb16;clear hb16;generalize oZ.drew=ji at *;refine tk 0 ?_;refine tk 1 ?_;refine tk 2 ?_;refine tk 3 ?_;refine tk 4 ?_;refine tk 5 ?_;refine tk 6 ?_;refine tk 7 ?_;refine tk 8 ?_;refine iE 9 fun K hK => ?_;go_simp;((with_reducible refine (OM.out.2 _ _ _ _ _ _ (HT.out.on hb0) (HYV.out.on hb0) aFV).mono ?_);rintro e yx ⟨rfl,aln⟩);obtain ⟨S,V,X,KY,KZq⟩:=b5 S V X KY KZq aln;replace hb0:=dT hb0 aln;clear aln;(try clear hHeld);refine hK.out _ _ zAu (fun hHeld => ?_);clear hK K;refine tk 10 ?_;refine tk 11 ?_;refine wpAnyH_done (by kernel_rfl) ?_ _;(try clear hHeld);clear KY KZq;go_wp2_with fail;go_roundw
   case rel => exact ⟨j+1,by omega,by go_num,by rw [Y4.out,← List.append_assoc,← List.append_assoc,← HPR.out,← HPQ.out,qO],hb0,S.out,V.out,X.out⟩
   case measure => simp [intOf];omega
  have hLl:=YW.out;obtain rfl:j=v.items.length:=by omega
  rw [List.take_of_length_le (by omega)];have aP:=V.out.e6;go_wp2_with fail;go_ret;exact ⟨by rw [HP0.out];rfl,hb0⟩
theorem aHW {ts:List ay} (hv:fF ts=0):∀ (N:Nat) (v:Val) (t:Int),nodes v≤N→cO ts true v t=true→aq7 ts v t:=by
 intro N
 induction N with
 | zero => intro v t hn;have:=zJ v;omega
 | succ N ih =>
  intro v t hn hf;cases hx:bM ts t with
  | none => rw [kG,hx] at hf;cases hf
  | some x =>
   obtain ⟨ht0,htl,hxt⟩:=atl hx;obtain ⟨u,rfl⟩ : ∃ u:Nat,t=(u:Int):=⟨t.toNat,by omega⟩
   rw [Int.toNat_natCast] at htl hxt;have hxm:=aoa hx;have hform:=((ni hv).2 x hxm).1;obtain ⟨h1,h2,h3⟩:=pI hx hf;have hkr:=Us hform;have hmx:=asx hv hxm;obtain ⟨hnk,hni⟩:=auH hn;have hfe:=aqO ts v (u:Nat) x hx;unfold jT ig at h3;unfold atT at hfe;have hcs:x.kind=1∨x.kind=2∨x.kind=3∨x.kind=4∨x.kind=5∨x.kind=6∨x.kind=7∨x.kind=8∨x.kind=9:=by omega
   rcases hcs with hk | hk | hk | hk | hk | hk | hk | hk | hk
   ·
    rw [if_pos hk] at hfe;exact aJT v u x hxt hk hfe
   ·
    rw [if_neg (by omega),if_pos hk] at hfe;exact fun w A c vk vi vr ht hva hq => aJV v u x hxt hk hva.ints.2.1 hfe w A c vk vi vr ht hva hq
   ·
    rw [if_neg (by omega),if_neg (by omega),if_pos hk] at hfe;rw [if_neg (by omega),if_pos hk] at h3;have hm:=hmx.1 hk;have h4:=of_decide_eq_true h3;exact aJX v u x hxt hk (by omega) hfe
   ·
    rw [if_neg (by omega),if_neg (by omega),if_neg (by omega),if_pos hk] at hfe;rw [if_neg (by omega),if_neg (by omega),if_pos hk] at h3;simp at h3;have i1:=auh hv hxm hk h3;obtain ⟨n,hn2⟩ : ∃ n:Nat,v.id=(n:Int):=⟨v.id.toNat,by omega⟩
    have hn3:v.id.toNat=n:=by omega
    rw [hn3] at hfe;exact aJW v u x hxt hk n hn2 (by omega) hfe
   ·
    rw [if_neg (by omega),if_neg (by omega),if_neg (by omega),if_pos hk] at h3;rw [if_neg (by omega),if_neg (by omega),if_neg (by omega),if_neg (by omega),if_pos hk] at hfe;simp only [Bool.and_eq_true,decide_eq_true_eq] at h3;obtain ⟨l1,_,_,z1⟩:=h3;have hme:=as2 hform (.inl hk);exact aJY v u x hxt hk l1 (by omega) hfe fun j y m hy hm => ih y m.ty (hni y (List.mem_of_getElem? hy)) (aEp _ _ z1 j y m hy hm)
   ·
    rw [if_neg (by omega),if_neg (by omega),if_neg (by omega),if_neg (by omega),if_pos hk] at h3;rw [if_neg (by omega),if_neg (by omega),if_neg (by omega),if_neg (by omega),if_neg (by omega),if_pos hk] at hfe;cases hm1:dN x v.id with
    | none => rw [hm1] at h3;simp at h3
    | some i =>
     rw [hm1] at h3 hfe;have i1:=axf hv hxm (.inr hk) hm1;simp only [Bool.and_eq_true,decide_eq_true_eq] at h3;obtain ⟨l1,q1,z1⟩:=h3;cases hm:x.ah[i]? with
     | none => rw [hm] at z1;cases z1
     | some m =>
      dsimp only at z1 hfe;rw [hm] at z1 hfe;dsimp only at z1 hfe;obtain ⟨y1,hy1⟩:=List.length_eq_one_iff.1 l1;rw [hy1,zM] at z1;rw [hy1,anV] at hfe;obtain ⟨n,hn2⟩ : ∃ n:Nat,v.id=(n:Int):=⟨v.id.toNat,by omega⟩
      have hn3:v.id.toNat=n:=by omega
      rw [hn3] at hfe;exact aJZ v u x hxt hk i n m y1 hm1 hm (by rw [hy1];rfl) hn2 (by omega) hfe (ih y1 m.ty (hni y1 (by rw [hy1];simp)) z1)
   ·
    rw [if_neg (by omega),if_neg (by omega),if_neg (by omega),if_neg (by omega),if_neg (by omega),if_pos hk] at h3;rw [if_neg (by omega),if_neg (by omega),if_neg (by omega),if_neg (by omega),if_neg (by omega),if_neg (by omega),if_neg (by omega)] at hfe;simp only [Bool.and_eq_true,decide_eq_true_eq] at h3;have hm:=hmx.2 (.inl hk);exact aIB v u x hxt hk (by omega) (Y0 ts v.items x.elem) (by rw [aoE,List.length_map]) hfe (fun j y hy => by rw [aoE,List.getElem?_map,hy];rfl) fun j y hy => ih y x.elem (hni y (List.mem_of_getElem? hy)) (alo h3.2 y (List.mem_of_getElem? hy))
   ·
    rw [if_neg (by omega),if_neg (by omega),if_neg (by omega),if_neg (by omega),if_neg (by omega),if_neg (by omega),if_pos hk] at h3;rw [if_neg (by omega),if_neg (by omega),if_neg (by omega),if_neg (by omega),if_neg (by omega),if_neg (by omega),if_pos hk] at hfe;simp only [Bool.and_eq_true,decide_eq_true_eq] at h3;obtain ⟨m1,l1,k1,_,i1⟩:=h3;have hm:=hmx.2 (.inr hk);dsimp only at hfe;rw [aEh,aoE,aoE] at hfe;exact aJ0 v u x hxt hk (by omega) (by omega) _ (by rw [List.length_zipWith,List.length_map,List.length_map];omega) hfe (fun j z y hz hy => by rw [List.getElem?_zipWith,List.getElem?_map,List.getElem?_map,hz,hy];rfl) fun j z y hz hy => ⟨ih z x.key (hnk z (List.mem_of_getElem? hz)) (alo k1 z (List.mem_of_getElem? hz)),ih y x.elem (hni y (List.mem_of_getElem? hy)) (alo i1 y (List.mem_of_getElem? hy))⟩
   rw [if_neg (by omega),if_neg (by omega),if_neg (by omega),if_neg (by omega),if_neg (by omega),if_neg (by omega),if_neg (by omega),if_pos hk] at h3;rw [if_neg (by omega),if_neg (by omega),if_neg (by omega),if_neg (by omega),if_neg (by omega),if_neg (by omega),if_neg (by omega)] at hfe;simp only [Bool.and_eq_true,decide_eq_true_eq] at h3;exact aIC v u x hxt hk (by omega) (Y0 ts v.items x.elem) (by rw [aoE,List.length_map]) hfe (fun j y hy => by rw [aoE,List.getElem?_map,hy];rfl) fun j y hy => ih y x.elem (hni y (List.mem_of_getElem? hy)) (alo h3.2 y (List.mem_of_getElem? hy))
theorem zAv {p:Prop} (h:p:=by exact ⟨M.out.cell 0,M.out.cell 2⟩):p:=h
theorem zBm {p:Prop} (h:p:=by
 go_enter Tryz.func89,Tryz.ntmps89
 go_upto_region 1 with fail;refine aO (fun wd2 hb1 M => ?_);have hw3:=hb1;clear hb1;have mQ:=M.out.e3;have kK:=M.out.e4;go_upto_region 6 with fail;clear mQ kK;have iU:=M.out.e0;have je:=M.out.e2;refine wp_region_held_drew (S:=(fun w' => w'.cell? ⟨w.heap.size,0,none⟩=some (.int .i64 (a:Nat))∧w'.cell? ⟨w.heap.size,2,none⟩=some (.int .i64 (d:Nat)))) (by kernel_rfl) ⟨iU,je⟩ (fun hHeld => ?_);clear iU je;have hb4:Below wd2.heap.size wd2 (wd2.drew):=(Below.refl _ _).drew;replace M:=b1 M hb4;replace hw3:=dT hw3 hb4;clear hb4;generalize wd2.drew=fG at *;refine tk 0 ?_;refine tk 1 ?_;refine tk 3 ?_;refine tk 6 ?_;refine tk 7 ?_;refine iE 2 fun K hK => ?_;go_simp;((with_reducible refine (alA a (by omega) _).mono ?_);rintro e wL ⟨rfl,hb7⟩);replace M:=b1 M hb7;replace hw3:=dT hw3 hb7;clear hb7;(try clear hHeld);refine hK.out _ _ zAv (fun hHeld => ?_);clear hK K;refine iE 4 fun K hK => ?_;go_simp;((with_reducible refine (HP2.out _).mono ?_);rintro e qP ⟨rfl,zU⟩);replace M:=b1 M zU;replace hw3:=dT hw3 zU;clear zU;(try clear hHeld);refine hK.out _ _ zAv (fun hHeld => ?_);clear hK K;refine tk 5 ?_;refine iE 8 fun K hK => ?_;go_simp;((with_reducible refine (alA d (by omega) _).mono ?_);rintro e kL ⟨rfl,iR⟩);replace M:=b1 M iR;replace hw3:=dT hw3 iR;clear iR;(try clear hHeld);refine hK.out _ _ zAv (fun hHeld => ?_);clear hK K;refine tk 9 ?_;refine tk 10 ?_;refine wpAnyH_done (by kernel_rfl) ?_ _;(try clear hHeld);go_wp2_with fail;go_ret;exact ⟨by rw [← List.append_assoc];rfl,hw3⟩):p:=h
theorem aB1 (a d:Nat) (ha:a≤1000000) (hd:d≤1000000) (mn:List UInt8) (mc mh:Bool) (hcd:¬ (mc=true∧mh=true)) (mf:Val) (vk vi vr:Value) (w:World) :
  Calls Tryz.prog 89 #[.agg #[.int .i64 (a:Nat),.string ⟨mn.toArray⟩,.int .i64 (d:Nat),.bool mc,.bool mh,.int .i64 mf.kind,.bool mf.bool,.int .i64 mf.num,.string ⟨mf.str.toArray⟩,.int .i64 mf.id,vk,vi,vr]] w (rG (pJ 9 a ++ (pJ 9 (if mc then 1 else if mh then 2 else 0) ++ pJ 9 d)) w):=by
 have h1:=bg a;have h2:=bg d;cases mc with
 | true =>
  cases mh with
  | true => exact absurd ⟨rfl,rfl⟩ hcd
  | false =>
   have HP2:Hid (∀ W,Calls Tryz.prog 50 #[.int .i64 1] W (rG (pJ 9 1) W)):=fun W => alA 1 (by decide) W;have hp2:=bg 1;have Ic:¬ 9223372036854775807 < (pJ 9 a).length+(pJ 9 1).length:=by omega
   have akm:¬ 9223372036854775807 < (pJ 9 a).length+(pJ 9 1).length+(pJ 9 d).length:=by omega
   exact zBm
 | false =>
  cases mh with
  | true =>
   have HP2:Hid (∀ W,Calls Tryz.prog 50 #[.int .i64 2] W (rG (pJ 9 2) W)):=fun W => alA 2 (by decide) W;have hp2:=bg 2;have Ic:¬ 9223372036854775807 < (pJ 9 a).length+(pJ 9 2).length:=by omega
   have akm:¬ 9223372036854775807 < (pJ 9 a).length+(pJ 9 2).length+(pJ 9 d).length:=by omega
   exact zBm
  | false =>
   have HP2:Hid (∀ W,Calls Tryz.prog 50 #[.int .i64 0] W (rG (pJ 9 0) W)):=fun W => alA 0 (by decide) W;have hp2:=bg 0;have Ic:¬ 9223372036854775807 < (pJ 9 a).length+(pJ 9 0).length:=by omega
   have akm:¬ 9223372036854775807 < (pJ 9 a).length+(pJ 9 0).length+(pJ 9 d).length:=by omega
   exact zBm
theorem aIS (x:ay) (vs vm:Value) (hk:x.kind=1) (w:World) (ht:jc w w.heap.size x vs vm):Calls Tryz.prog 51 #[dA x vs vm] w (rG (dF x) w):=by
 have hs:dF x=pJ 9 1:=by unfold dF;simp [hk]
 rw [hs];obtain ⟨C1,l1,C2,l2,rfl,rfl,-,-⟩:=ht.forms;have HT:=hiQ ht;have HP0:Hid (∀ W,Calls Tryz.prog 50 #[.int .i64 1] W (rG (pJ 9 1) W)):=fun W => alA 1 (by decide) W;have hp0:=bg 1;clear ht;show Calls _ _ #[.agg #[.int .i64 x.kind,.string ⟨x.name.toArray⟩,.int .i64 x.low,.int .i64 x.high,.int .i64 x.max,.slice C1 x.syms.length l1,.slice C2 x.ah.length l2,.int .i64 x.key,.int .i64 x.elem,.bool x.opn]] _ _;rw [hk];go_enter Tryz.func51,Tryz.ntmps51
 go_upto_region 1 with fail;refine aO (fun wd2 hb1 X => ?_);have hw3:=hb1;clear hb1;have aK:=X.out.e0;go_wp2_with fail;clear aK;((with_reducible refine (HP0.out _).mono ?_);rintro e wd4 ⟨rfl,hb5⟩);replace X:=b1 X hb5;replace hw3:=dT hw3 hb5;clear hb5;have aK:=X.out.e0;exact zCm
theorem zIw {p:Prop} (h:p:=by
 ((with_reducible refine (alA u (by omega) _).mono ?_);rintro e wL ⟨rfl,hb7⟩);replace X:=b1 X hb7;replace hw3:=dT hw3 hb7;clear hb7;exact zCm):p:=h
theorem aIU (x:ay) (vs vm:Value) (hk:x.kind=3) (ho:aow x) (w:World) (ht:jc w w.heap.size x vs vm):Calls Tryz.prog 51 #[dA x vs vm] w (rG (dF x) w):=by
 obtain ⟨u,hu,hu2,Wn⟩:=alq ho.max;have hs:dF x=pJ 9 3 ++ pJ 9 u:=by unfold dF;simp [hk,hu2]
 have HU:=hiQ hu;have hpu:=bg u;rw [hs];clear hu hu2;obtain ⟨C1,l1,C2,l2,rfl,rfl,-,-⟩:=ht.forms;have HT:=hiQ ht;have HP0:Hid (∀ W,Calls Tryz.prog 50 #[.int .i64 3] W (rG (pJ 9 3) W)):=fun W => alA 3 (by decide) W;have hp0:=bg 3;clear ht;show Calls _ _ #[.agg #[.int .i64 x.kind,.string ⟨x.name.toArray⟩,.int .i64 x.low,.int .i64 x.high,.int .i64 x.max,.slice C1 x.syms.length l1,.slice C2 x.ah.length l2,.int .i64 x.key,.int .i64 x.elem,.bool x.opn]] _ _;rw [hk];go_enter Tryz.func51,Tryz.ntmps51
 go_upto_region 1 with fail;refine aO (fun wd2 hb1 X => ?_);have hw3:=hb1;clear hb1;have aK:=X.out.e0;go_wp2_with fail;clear aK;((with_reducible refine (HP0.out _).mono ?_);rintro e wd4 ⟨rfl,hb5⟩);replace X:=b1 X hb5;replace hw3:=dT hw3 hb5;clear hb5;have Ic:¬ 9223372036854775807 < (pJ 9 3).length+(pJ 9 u).length:=by omega
 have aK:=X.out.e0;have dL:=X.out.e4;rw [HU.out] at dL;go_wp2_with fail;clear aK dL;exact zIw
theorem aIX (x:ay) (vs vm:Value) (hk:x.kind=9) (ho:aow x) (w:World) (ht:jc w w.heap.size x vs vm):Calls Tryz.prog 51 #[dA x vs vm] w (rG (dF x) w):=by
 obtain ⟨u,hu,hu2,Wn⟩:=alq ho.elem;have hs:dF x=pJ 9 9 ++ pJ 9 u:=by unfold dF;simp [hk,hu2]
 have HU:=hiQ hu;have hpu:=bg u;rw [hs];clear hu hu2;obtain ⟨C1,l1,C2,l2,rfl,rfl,-,-⟩:=ht.forms;have HT:=hiQ ht;have HP0:Hid (∀ W,Calls Tryz.prog 50 #[.int .i64 9] W (rG (pJ 9 9) W)):=fun W => alA 9 (by decide) W;have hp0:=bg 9;clear ht;show Calls _ _ #[.agg #[.int .i64 x.kind,.string ⟨x.name.toArray⟩,.int .i64 x.low,.int .i64 x.high,.int .i64 x.max,.slice C1 x.syms.length l1,.slice C2 x.ah.length l2,.int .i64 x.key,.int .i64 x.elem,.bool x.opn]] _ _;rw [hk];go_enter Tryz.func51,Tryz.ntmps51
 go_upto_region 1 with fail;refine aO (fun wd2 hb1 X => ?_);have hw3:=hb1;clear hb1;have aK:=X.out.e0;go_wp2_with fail;clear aK;((with_reducible refine (HP0.out _).mono ?_);rintro e wd4 ⟨rfl,hb5⟩);replace X:=b1 X hb5;replace hw3:=dT hw3 hb5;clear hb5;have Ic:¬ 9223372036854775807 < (pJ 9 9).length+(pJ 9 u).length:=by omega
 have aK:=X.out.e0;have dM:=X.out.e8;rw [HU.out] at dM;go_wp2_with fail;clear aK dM;exact zIw
theorem zDl {p:Prop} (h:p:=by
 refine wpAnyH_done (by kernel_rfl) ?_ _;(try clear hHeld);go_wp2_with fail;go_ret;exact ⟨by rw [← List.append_assoc];rfl,hw3⟩):p:=h
theorem aIV (x:ay) (vs vm:Value) (hk:x.kind=7) (ho:aow x) (w:World) (ht:jc w w.heap.size x vs vm):Calls Tryz.prog 51 #[dA x vs vm] w (rG (dF x) w):=by
 obtain ⟨u,hu,hu2,Wn⟩:=alq ho.max;obtain ⟨d,hd,hd2,hdl⟩:=alq ho.elem;have hs:dF x=pJ 9 7 ++ (pJ 9 u ++ pJ 9 d):=by unfold dF;simp [hk,hu2,hd2]
 have HU:=hiQ hu;have HD:=hiQ hd;have hpu:=bg u;have YR:=bg d;rw [hs];clear hu hu2 hd hd2;obtain ⟨C1,l1,C2,l2,rfl,rfl,-,-⟩:=ht.forms;have HT:=hiQ ht;have HP0:Hid (∀ W,Calls Tryz.prog 50 #[.int .i64 7] W (rG (pJ 9 7) W)):=fun W => alA 7 (by decide) W;have hp0:=bg 7;clear ht;show Calls _ _ #[.agg #[.int .i64 x.kind,.string ⟨x.name.toArray⟩,.int .i64 x.low,.int .i64 x.high,.int .i64 x.max,.slice C1 x.syms.length l1,.slice C2 x.ah.length l2,.int .i64 x.key,.int .i64 x.elem,.bool x.opn]] _ _;rw [hk];go_enter Tryz.func51,Tryz.ntmps51
 go_upto_region 1 with fail;refine aO (fun wd2 hb1 X => ?_);have hw3:=hb1;clear hb1;have aK:=X.out.e0;go_wp2_with fail;clear aK;((with_reducible refine (HP0.out _).mono ?_);rintro e wd4 ⟨rfl,hb5⟩);replace X:=b1 X hb5;replace hw3:=dT hw3 hb5;clear hb5;have Ic:¬ 9223372036854775807 < (pJ 9 7).length+(pJ 9 u).length:=by omega
 have akm:¬ 9223372036854775807 < (pJ 9 7).length+(pJ 9 u).length+(pJ 9 d).length:=by omega
 have aK:=X.out.e0;go_upto_region 8 with fail;clear aK;have dL:=X.out.e4;have dM:=X.out.e8;refine wp_region_held_drew (S:=(fun w' => w'.cell? ⟨w.heap.size,4,none⟩=some (.int .i64 x.max)∧w'.cell? ⟨w.heap.size,8,none⟩=some (.int .i64 x.elem))) (by kernel_rfl) ⟨dL,dM⟩ (fun hHeld => ?_);clear dL dM;have hb6:Below wd4.heap.size wd4 (wd4.drew):=(Below.refl _ _).drew;replace X:=b1 X hb6;replace hw3:=dT hw3 hb6;clear hb6;generalize wd4.drew=jC at *;refine tk 0 ?_;refine tk 1 ?_;refine tk 2 ?_;refine tk 5 ?_;refine tk 6 ?_;refine iE 3 fun K hK => ?_;go_simp;rw [HU.out];((with_reducible refine (alA u (by omega) _).mono ?_);rintro e qP ⟨rfl,zU⟩);replace X:=b1 X zU;replace hw3:=dT hw3 zU;clear zU;(try clear hHeld);refine hK.out _ _ (⟨X.out.cell 4,X.out.cell 8⟩) (fun hHeld => ?_);clear hK K;refine tk 4 ?_;refine iE 7 fun K hK => ?_;go_simp;rw [HD.out];((with_reducible refine (alA d (by omega) _).mono ?_);rintro e kL ⟨rfl,iR⟩);replace X:=b1 X iR;replace hw3:=dT hw3 iR;clear iR;(try clear hHeld);refine hK.out _ _ (⟨X.out.cell 4,X.out.cell 8⟩) (fun hHeld => ?_);clear hK K;refine tk 8 ?_;refine tk 9 ?_;exact zDl
theorem zAw {p:Prop} (h:p:=by exact ⟨X.out.cell 4,⟨X.out.cell 7,X.out.cell 8⟩⟩):p:=h
theorem aIW (x:ay) (vs vm:Value) (hk:x.kind=8) (ho:aow x) (w:World) (ht:jc w w.heap.size x vs vm):Calls Tryz.prog 51 #[dA x vs vm] w (rG (dF x) w):=by
 obtain ⟨u,hu,hu2,Wn⟩:=alq ho.max;obtain ⟨k,hkk,hk2,hkl⟩:=alq ho.key;obtain ⟨d,hd,hd2,hdl⟩:=alq ho.elem;have hs:dF x=pJ 9 8 ++ (pJ 9 u ++ (pJ 9 k ++ pJ 9 d)):=by unfold dF;simp [hk,hu2,hk2,hd2]
 have HU:=hiQ hu;have HKK:=hiQ hkk;have HD:=hiQ hd;have hpu:=bg u;have hpk:=bg k;have YR:=bg d;rw [hs];clear hu hu2 hd hd2 hkk hk2;obtain ⟨C1,l1,C2,l2,rfl,rfl,-,-⟩:=ht.forms;have HT:=hiQ ht;have HP0:Hid (∀ W,Calls Tryz.prog 50 #[.int .i64 8] W (rG (pJ 9 8) W)):=fun W => alA 8 (by decide) W;have hp0:=bg 8;clear ht;show Calls _ _ #[.agg #[.int .i64 x.kind,.string ⟨x.name.toArray⟩,.int .i64 x.low,.int .i64 x.high,.int .i64 x.max,.slice C1 x.syms.length l1,.slice C2 x.ah.length l2,.int .i64 x.key,.int .i64 x.elem,.bool x.opn]] _ _;rw [hk];go_enter Tryz.func51,Tryz.ntmps51
 go_upto_region 1 with fail;refine aO (fun wd2 hb1 X => ?_);have hw3:=hb1;clear hb1;have aK:=X.out.e0;go_wp2_with fail;clear aK;((with_reducible refine (HP0.out _).mono ?_);rintro e wd4 ⟨rfl,hb5⟩);replace X:=b1 X hb5;replace hw3:=dT hw3 hb5;clear hb5;have Ic:¬ 9223372036854775807 < (pJ 9 8).length+(pJ 9 u).length:=by omega
 have akm:¬ 9223372036854775807 < (pJ 9 8).length+(pJ 9 u).length+(pJ 9 k).length:=by omega
 have aKs:¬ 9223372036854775807 < (pJ 9 8).length+(pJ 9 u).length+(pJ 9 k).length+(pJ 9 d).length:=by omega
 have aK:=X.out.e0;go_upto_region 10 with fail;clear aK;obtain ⟨-,-,-,-,dL,-,-,dD,dM,-⟩:=X.out.c10;refine wp_region_held_drew (S:=(fun w' => w'.cell? ⟨w.heap.size,4,none⟩=some (.int .i64 x.max)∧w'.cell? ⟨w.heap.size,7,none⟩=some (.int .i64 x.key)∧w'.cell? ⟨w.heap.size,8,none⟩=some (.int .i64 x.elem))) (by kernel_rfl) ⟨dL,dD,dM⟩ (fun hHeld => ?_);clear dL dD dM;have hb6:Below wd4.heap.size wd4 (wd4.drew):=(Below.refl _ _).drew;replace X:=b1 X hb6;replace hw3:=dT hw3 hb6;clear hb6;generalize wd4.drew=jC at *;refine tk 0 ?_;refine tk 1 ?_;refine tk 2 ?_;refine tk 5 ?_;refine tk 6 ?_;refine tk 9 ?_;refine tk 10 ?_;refine iE 3 fun K hK => ?_;go_simp;rw [HU.out];((with_reducible refine (alA u (by omega) _).mono ?_);rintro e qP ⟨rfl,zU⟩);replace X:=b1 X zU;replace hw3:=dT hw3 zU;clear zU;(try clear hHeld);refine hK.out _ _ zAw (fun hHeld => ?_);clear hK K;refine tk 4 ?_;refine iE 7 fun K hK => ?_;go_simp;rw [HKK.out];((with_reducible refine (alA k (by omega) _).mono ?_);rintro e kL ⟨rfl,iR⟩);replace X:=b1 X iR;replace hw3:=dT hw3 iR;clear iR;(try clear hHeld);refine hK.out _ _ zAw (fun hHeld => ?_);clear hK K;refine tk 8 ?_;refine iE 11 fun K hK => ?_;go_simp;rw [HD.out];((with_reducible refine (alA d (by omega) _).mono ?_);rintro e lZ ⟨rfl,kR⟩);replace X:=b1 X kR;replace hw3:=dT hw3 kR;clear kR;(try clear hHeld);refine hK.out _ _ zAw (fun hHeld => ?_);clear hK K;refine tk 12 ?_;refine tk 13 ?_;refine wpAnyH_done (by kernel_rfl) ?_ _;(try clear hHeld);go_wp2_with fail;go_ret;exact ⟨by rw [← List.append_assoc,← List.append_assoc];rfl,hw3⟩
theorem zAx {p:Prop} (h:p:=by exact ⟨X.out.cell 2,X.out.cell 3⟩):p:=h
theorem aIT (x:ay) (vs vm:Value) (hk:x.kind=2) (w:World) (ht:jc w w.heap.size x vs vm):Calls Tryz.prog 51 #[dA x vs vm] w (rG (dF x) w):=by
 have hlo:I64 x.low:=ht.ints.2.1;have hhi:I64 x.high:=ht.ints.2.2.1;obtain ⟨u,hu,Wn⟩ : ∃ z:Nat,zig x.low=(z:Int)∧oV z:=by
  have h:=TT x.low hlo;exact ⟨(zig x.low).toNat,by omega,by unfold oV;omega⟩
 obtain ⟨d,hd,hdl⟩ : ∃ z:Nat,zig x.high=(z:Int)∧oV z:=by
  have h:=TT x.high hhi;exact ⟨(zig x.high).toNat,by omega,by unfold oV;omega⟩
 have hs:dF x=pJ 9 2 ++ (pJ 9 u ++ pJ 9 d):=by
  unfold dF akT;rw [hu,hd];simp [hk]
 have HZ1:=hiQ (fun W => aCb x.low hlo W);have HZ2:=hiQ (fun W => aCb x.high hhi W);rw [hu] at HZ1;rw [hd] at HZ2;have hpu:=bg u;have YR:=bg d;rw [hs];clear hu hd hlo hhi;obtain ⟨C1,l1,C2,l2,rfl,rfl,-,-⟩:=ht.forms;have HT:=hiQ ht;have HP0:Hid (∀ W,Calls Tryz.prog 50 #[.int .i64 2] W (rG (pJ 9 2) W)):=fun W => alA 2 (by decide) W;have hp0:=bg 2;clear ht;show Calls _ _ #[.agg #[.int .i64 x.kind,.string ⟨x.name.toArray⟩,.int .i64 x.low,.int .i64 x.high,.int .i64 x.max,.slice C1 x.syms.length l1,.slice C2 x.ah.length l2,.int .i64 x.key,.int .i64 x.elem,.bool x.opn]] _ _;rw [hk];go_enter Tryz.func51,Tryz.ntmps51
 go_upto_region 1 with fail;refine aO (fun wd2 hb1 X => ?_);have hw3:=hb1;clear hb1;have aK:=X.out.e0;go_wp2_with fail;clear aK;((with_reducible refine (HP0.out _).mono ?_);rintro e wd4 ⟨rfl,hb5⟩);replace X:=b1 X hb5;replace hw3:=dT hw3 hb5;clear hb5;have Ic:¬ 9223372036854775807 < (pJ 9 2).length+(pJ 9 u).length:=by omega
 have akm:¬ 9223372036854775807 < (pJ 9 2).length+(pJ 9 u).length+(pJ 9 d).length:=by omega
 have aK:=X.out.e0;go_upto_region 4 with fail;clear aK;have bY:=X.out.e2;have bZ:=X.out.e3;refine wp_region_held_drew (S:=(fun w' => w'.cell? ⟨w.heap.size,2,none⟩=some (.int .i64 x.low)∧w'.cell? ⟨w.heap.size,3,none⟩=some (.int .i64 x.high))) (by kernel_rfl) ⟨bY,bZ⟩ (fun hHeld => ?_);clear bY bZ;have hb6:Below wd4.heap.size wd4 (wd4.drew):=(Below.refl _ _).drew;replace X:=b1 X hb6;replace hw3:=dT hw3 hb6;clear hb6;generalize wd4.drew=jC at *;refine tk 0 ?_;refine tk 1 ?_;refine tk 2 ?_;refine tk 6 ?_;refine tk 7 ?_;refine iE 3 fun K hK => ?_;go_simp;((with_reducible refine (HZ1.out _).mono ?_);rintro e qP ⟨rfl,rfl⟩);(try clear hHeld);refine hK.out _ _ zAx (fun hHeld => ?_);clear hK K;refine iE 4 fun K hK => ?_;go_simp;((with_reducible refine (azj u Wn _).mono ?_);rintro e kL ⟨rfl,iR⟩);replace X:=b1 X iR;replace hw3:=dT hw3 iR;clear iR;(try clear hHeld);refine hK.out _ _ zAx (fun hHeld => ?_);clear hK K;refine tk 5 ?_;refine iE 8 fun K hK => ?_;go_simp;((with_reducible refine (HZ2.out _).mono ?_);rintro e lZ ⟨rfl,rfl⟩);(try clear hHeld);refine hK.out _ _ zAx (fun hHeld => ?_);clear hK K;refine iE 9 fun K hK => ?_;go_simp;((with_reducible refine (azj d hdl _).mono ?_);rintro e oZ ⟨rfl,o7⟩);replace X:=b1 X o7;replace hw3:=dT hw3 o7;clear o7;(try clear hHeld);refine hK.out _ _ zAx (fun hHeld => ?_);clear hK K;refine tk 10 ?_;refine tk 11 ?_;exact zDl
theorem zDw {p:Prop} (h:p:=by
 go_wp2_with fail;go_roundw
 case rel => exact ⟨j+1,by omega,by go_num,by rw [Y4.out,← List.append_assoc,← HPR.out,qO],HFL.out,hb0,X.out⟩
 case measure => simp [intOf];omega):p:=h
theorem aIP (x:ay) (vs vm:Value) (hk:x.kind=4) (ho:aow x) (w:World) (ht:jc w w.heap.size x vs vm):Calls Tryz.prog 51 #[dA x vs vm] w (rG (dF x) w):=by
 obtain ⟨hsl,hsm⟩:=ho.syms;obtain ⟨L,hL⟩ : ∃ L,L=x.syms.map fun s => pJ 9 s.1.toNat:=⟨_,rfl⟩
 have hs:dF x=pJ 9 4 ++ (F6 x.opn ++ (pJ 9 x.syms.length ++ L.flatten)):=by
  unfold dF;rw [hL];simp [hk,List.flatMap_def]
 have hLl:L.length=x.syms.length:=by rw [hL,List.length_map]
 have hLj:∀ (j:Nat) (s:Raw),x.syms[j]?=some s→L[j]?=some (pJ 9 s.1.toNat):=fun j s h => by rw [hL,List.getElem?_map,h];rfl
 have HSM:=hiQ hsm;have HLJ:=hiQ hLj;have YW:=hiQ hLl;have hpf:(F6 x.opn).length≤10:=bg _;have hpn:=bg x.syms.length;rw [hs];clear hL hs hsm hLj hLl;obtain ⟨C1,l1,C2,l2,rfl,rfl,-,-⟩:=ht.forms;have HT:=hiQ ht;have HP0:Hid (∀ W,Calls Tryz.prog 50 #[.int .i64 4] W (rG (pJ 9 4) W)):=fun W => alA 4 (by decide) W;have hp0:=bg 4;clear ht;show Calls _ _ #[.agg #[.int .i64 x.kind,.string ⟨x.name.toArray⟩,.int .i64 x.low,.int .i64 x.high,.int .i64 x.max,.slice C1 x.syms.length l1,.slice C2 x.ah.length l2,.int .i64 x.key,.int .i64 x.elem,.bool x.opn]] _ _;rw [hk];go_enter Tryz.func51,Tryz.ntmps51
 go_upto_region 1 with fail;refine aO (fun wd2 hb1 X => ?_);have hw3:=hb1;clear hb1;have aK:=X.out.e0;go_wp2_with fail;clear aK;((with_reducible refine (HP0.out _).mono ?_);rintro e wd4 ⟨rfl,hb5⟩);replace X:=b1 X hb5;replace hw3:=dT hw3 hb5;clear hb5;have Ic:¬ 9223372036854775807 < (pJ 9 4).length+(F6 x.opn).length:=by omega
 have akm:¬ 9223372036854775807 < (pJ 9 4).length+(F6 x.opn).length+(pJ 9 x.syms.length).length:=by omega
 have aK:=X.out.e0;go_upto_region 14 with fail;clear aK;have eX:=X.out.e5;have dU:=X.out.e9;refine wp_region_held_drew (S:=(fun w' => w'.cell? ⟨w.heap.size,5,none⟩=some (.slice C1 x.syms.length l1)∧w'.cell? ⟨w.heap.size,9,none⟩=some (.bool x.opn))) (by kernel_rfl) ⟨eX,dU⟩ (fun hHeld => ?_);clear eX dU;have hb6:Below wd4.heap.size wd4 (wd4.drew):=(Below.refl _ _).drew;replace X:=b1 X hb6;replace hw3:=dT hw3 hb6;clear hb6;generalize wd4.drew=jC at *;refine tk 0 ?_;refine tk 1 ?_;refine tk 2 ?_;refine tk 5 ?_;refine tk 6 ?_;refine tk 7 ?_;refine iE 3 fun K hK => ?_;go_simp;((with_reducible refine (aAL x.opn _).mono ?_);rintro e qP ⟨rfl,zU⟩);replace X:=b1 X zU;replace hw3:=dT hw3 zU;clear zU;(try clear hHeld);refine hK.out _ _ (⟨X.out.cell 5,X.out.cell 9⟩) (fun hHeld => ?_);clear hK K;refine tk 4 ?_;refine iE 8 fun K hK => ?_;go_simp;((with_reducible refine (alA x.syms.length (by omega) _).mono ?_);rintro e kL ⟨rfl,iR⟩);replace X:=b1 X iR;replace hw3:=dT hw3 iR;clear iR;(try clear hHeld);refine hK.out _ _ (⟨X.out.cell 5,X.out.cell 9⟩) (fun hHeld => ?_);clear hK K;refine tk 9 ?_;refine tk 10 ?_;refine wpAnyH_done (by kernel_rfl) ?_ _;(try clear hHeld);rw [qO,qO];obtain ⟨p0,auv⟩ : ∃ p,p=pJ 9 4 ++ F6 x.opn ++ pJ 9 x.syms.length:=⟨_,rfl⟩
 have aHN:p0.length≤30:=by rw [auv];simp only [List.length_append];omega
 rw [← auv];have HPQ:=hiQ auv;have hX0:=X.out;clear auv Ic akm;go_upto_region 16 with fail;go_loopw [3,4] (fun s3 s4 wr => ∃ j:Nat,j≤x.syms.length∧s4 = .int .i64 j∧s3 = .string ⟨(p0 ++ (L.take j).flatten).toArray⟩∧((L.take j).flatten).length≤10*j∧Below w.heap.size w wr∧Has wr w.heap.size 71 #[.int .i64 4,.string ⟨x.name.toArray⟩,.int .i64 x.low,.int .i64 x.high,.int .i64 x.max,.slice C1 x.syms.length l1,.slice C2 x.ah.length l2,.int .i64 x.key,.int .i64 x.elem,.bool x.opn]) (fun _ s4 _ => x.syms.length - (intOf s4).toNat)
 case atStart => exact ⟨0,Nat.zero_le _,rfl,by simp,by simp,hw3,hX0⟩
 case round =>
  clear X hX0;obtain ⟨j,hjl,rfl,rfl,hfl,hb0,X⟩:=hrel;replace X:=hiQ X;by_cases hlt:j < x.syms.length
  ·
   obtain ⟨b5,o5,hC1,hb5,hc5⟩:=HT.out.syms.at_ (by omega);have hk5:wr.cell? ⟨b5,o5+j*2,none⟩=some (.int .i64 x.syms[j].1):=((hb0).cell (p:=⟨b5,o5+j*2,none⟩) hb5).trans (hc5 (j*2) _ (flat_get Jl x.syms j 0 hlt (by decide)));have TK:=HLJ.out j _ (List.getElem?_eq_getElem hlt);have hss:=HSM.out _ (List.getElem_mem hlt);have V5:j < L.length:=by have:=YW.out;omega
   rw [List.getElem?_eq_getElem V5] at TK;have hnx:=aAM L j V5;rw [Option.some.inj TK] at hnx;generalize x.syms[j].1=yi at *;obtain ⟨u,hu,hu2,Wn⟩:=alq hss;rw [hu] at hk5;rw [hu2] at hnx;have hpu:=bg u;have Y4:=hiQ hnx;obtain ⟨pr,hpr⟩ : ∃ p,p=p0 ++ (L.take j).flatten:=⟨_,rfl⟩
   have aHO:pr.length≤30+10*j:=by rw [hpr,List.length_append];omega
   have azL:((L.take (j+1)).flatten).length≤10*(j+1):=by rw [hnx,List.length_append];omega
   have HFL:=hiQ azL;rw [← hpr];have HPR:=hiQ hpr;have Ic:¬ 9223372036854775807 < pr.length+(pJ 9 u).length:=by omega
   have hi1:(j:Int) < x.syms.length:=by omega
   have hd0:decide ((j:Int) < 0)=false:=by simp
   have hd1:decide (x.syms.length≤j)=false:=by simpa using hlt
   clear hc5 TK hss hnx hpr azL hu hu2 hfl;subst hC1;have eX:=X.out.e5;go_wp2_with fail;clear hk5 eX;((with_reducible refine (alA u (by omega) _).mono ?_);rintro e lZ ⟨rfl,kR⟩);replace X:=b1 X kR;replace hb0:=dT hb0 kR;clear kR;exact zDw
  obtain rfl:j=x.syms.length:=by omega
  rw [List.take_of_length_le (by have:=YW.out;omega)];have eX:=X.out.e5;go_wp2_with fail;go_ret;exact ⟨by rw [HPQ.out];simp only [List.append_assoc];rfl,hb0⟩
theorem zFf {p:Prop} (h:p:=by
 obtain rfl:j=x.ah.length:=by omega
 rw [List.take_of_length_le (by have:=YW.out;omega)];have bU:=X.out.e6;go_wp2_with fail;go_ret;exact ⟨by rw [HPQ.out];simp only [List.append_assoc];rfl,hb0⟩):p:=h
theorem zFz {p:Prop} (h:p:=by
 have q1:=bg mi.toNat;have q2:=bg (MF ⟨mi,mn,mt,mc,mh,mf⟩);have q3:=bg mt.toNat;rw [hg];unfold BN;simp only [List.length_append];omega):p:=h
theorem zGn {p:Prop} (h:p:=by
 rw [hg];unfold BN MF;simp only [ha2,hd2];rw [ha,hd];exact aB1 a d hal hdl mn mc mh hcd mf k1 k2 k3 W):p:=h
theorem aIQ (x:ay) (vs vm:Value) (hk:x.kind=5) (ho:aow x) (hcd:∀ m ∈ x.ah,¬ (m.akb=true∧m.eG=true)) (w:World) (ht:jc w w.heap.size x vs vm):Calls Tryz.prog 51 #[dA x vs vm] w (rG (dF x) w):=by
 obtain ⟨hml,hsm⟩:=ho.ah;obtain ⟨L,hL⟩ : ∃ L,L=x.ah.map BN:=⟨_,rfl⟩
 have hLl:L.length=x.ah.length:=by rw [hL,List.length_map]
 have hLj:∀ (j:Nat) (m:Mem),x.ah[j]?=some m→L[j]?=some (BN m):=fun j m h => by rw [hL,List.getElem?_map,h];rfl
 have HSM:=hiQ hsm;have HCD:=hiQ hcd;have HLJ:=hiQ hLj;have YW:=hiQ hLl;have hpf:(F6 x.opn).length≤10:=bg _;have hpn:=bg x.ah.length;have hs:dF x=pJ 9 5 ++ (pJ 9 x.ah.length ++ L.flatten):=by
  unfold dF;rw [hL];simp [hk,List.flatMap_def]
 rw [hs];clear hL hs hsm hLj hLl hcd;obtain ⟨C1,l1,C2,l2,rfl,rfl,-,-⟩:=ht.forms;have HT:=hiQ ht;have HP0:Hid (∀ W,Calls Tryz.prog 50 #[.int .i64 5] W (rG (pJ 9 5) W)):=fun W => alA 5 (by decide) W;have hp0:=bg 5;clear ht;show Calls _ _ #[.agg #[.int .i64 x.kind,.string ⟨x.name.toArray⟩,.int .i64 x.low,.int .i64 x.high,.int .i64 x.max,.slice C1 x.syms.length l1,.slice C2 x.ah.length l2,.int .i64 x.key,.int .i64 x.elem,.bool x.opn]] _ _;rw [hk];go_enter Tryz.func51,Tryz.ntmps51
 go_upto_region 1 with fail;refine aO (fun wd2 hb1 X => ?_);have hw3:=hb1;clear hb1;have aK:=X.out.e0;go_wp2_with fail;clear aK;((with_reducible refine (HP0.out _).mono ?_);rintro e wd4 ⟨rfl,hb5⟩);replace X:=b1 X hb5;replace hw3:=dT hw3 hb5;clear hb5;have Ic:¬ 9223372036854775807 < (pJ 9 5).length+(pJ 9 x.ah.length).length:=by omega
 have aK:=X.out.e0;have bU:=X.out.e6;go_wp2_with fail;clear aK bU;((with_reducible refine (alA x.ah.length (by omega) _).mono ?_);rintro e wL ⟨rfl,hb7⟩);replace X:=b1 X hb7;replace hw3:=dT hw3 hb7;clear hb7;go_upto_region 24 with fail;rw [qO];obtain ⟨p0,auv⟩ : ∃ p,p=pJ 9 5 ++ pJ 9 x.ah.length:=⟨_,rfl⟩
 have aHN:p0.length≤40:=by rw [auv];simp only [List.length_append];omega
 rw [← auv];have HPQ:=hiQ auv;have hX0:=X.out;clear auv Ic;go_upto_region 25 with fail;go_loopw [3,5] (fun s3 s5 wr => ∃ j:Nat,j≤x.ah.length∧s5 = .int .i64 j∧s3 = .string ⟨(p0 ++ (L.take j).flatten).toArray⟩∧((L.take j).flatten).length≤30*j∧Below w.heap.size w wr∧Has wr w.heap.size 71 #[.int .i64 5,.string ⟨x.name.toArray⟩,.int .i64 x.low,.int .i64 x.high,.int .i64 x.max,.slice C1 x.syms.length l1,.slice C2 x.ah.length l2,.int .i64 x.key,.int .i64 x.elem,.bool x.opn]) (fun _ s5 _ => x.ah.length - (intOf s5).toNat)
 case atStart => exact ⟨0,Nat.zero_le _,rfl,by simp,by simp,hw3,hX0⟩
 case round =>
  clear X hX0;obtain ⟨j,hjl,rfl,rfl,hfl,hb0,X⟩:=hrel;replace X:=hiQ X;by_cases hlt:j < x.ah.length
  ·
   obtain ⟨b6,o6,hC2,hb6,hc6⟩:=HT.out.ah.elem (by omega);obtain ⟨k1,k2,k3,hmc,-⟩:=hc6 j hlt;have TK:=HLJ.out j _ (List.getElem?_eq_getElem hlt);have hss:=HSM.out _ (List.getElem_mem hlt);have hcd:=HCD.out _ (List.getElem_mem hlt);have V5:j < L.length:=by have:=YW.out;omega
   rw [List.getElem?_eq_getElem V5] at TK;have hnx:=aAM L j V5;rw [Option.some.inj TK] at hnx;replace hmc:=aD1 hmc hb0 hb6;generalize x.ah[j]=m at *;obtain ⟨mi,mn,mt,mc,mh,mf⟩:=m;simp only at hss hcd;obtain ⟨a,ha,ha2,hal⟩:=alq hss.1;obtain ⟨d,hd,hd2,hdl⟩:=alq hss.2;obtain ⟨g,hg⟩ : ∃ g,g=BN ⟨mi,mn,mt,mc,mh,mf⟩:=⟨_,rfl⟩
   have hgl:g.length≤30:=by
    exact zFz
   have MB:Hid (∀ W,Calls Tryz.prog 89 #[.agg #[.int .i64 mi,.string ⟨mn.toArray⟩,.int .i64 mt,.bool mc,.bool mh,.int .i64 mf.kind,.bool mf.bool,.int .i64 mf.num,.string ⟨mf.str.toArray⟩,.int .i64 mf.id,k1,k2,k3]] W (rG g W)):=fun W => by
    exact zGn
   rw [← hg] at hnx;have Y4:=hiQ hnx;obtain ⟨pr,hpr⟩ : ∃ p,p=p0 ++ (L.take j).flatten:=⟨_,rfl⟩
   have aHO:pr.length≤40+30*j:=by rw [hpr,List.length_append];omega
   have azL:((L.take (j+1)).flatten).length≤30*(j+1):=by rw [hnx,List.length_append];omega
   have HFL:=hiQ azL;rw [← hpr];have HPR:=hiQ hpr;have Ic:¬ 9223372036854775807 < pr.length+g.length:=by omega
   have hi1:(j:Int) < x.ah.length:=by omega
   have hd0:decide ((j:Int) < 0)=false:=by simp
   have hd1:decide (x.ah.length≤j)=false:=by simpa using hlt
   obtain ⟨a0,a1,a2,a3,a4,a5,a6,a7,a8,a9,a10,a11,a12⟩:=hmc;clear hc6 TK hss hcd hnx hpr azL ha ha2 hd hd2 hfl hg;subst hC2;have bU:=X.out.e6;go_wp2_with fail;clear a0 a1 a2 a3 a4 a5 a6 a7 a8 a9 a10 a11 a12 bU;((with_reducible refine (MB.out _).mono ?_);rintro e qP ⟨rfl,zU⟩);replace X:=b1 X zU;replace hb0:=dT hb0 zU;clear zU;exact zDw
  exact zFf
theorem aIR (x:ay) (vs vm:Value) (hk:x.kind=6) (ho:aow x) (hcd:∀ m ∈ x.ah,¬ (m.akb=true∧m.eG=true)) (w:World) (ht:jc w w.heap.size x vs vm):Calls Tryz.prog 51 #[dA x vs vm] w (rG (dF x) w):=by
 obtain ⟨hml,hsm⟩:=ho.ah;obtain ⟨L,hL⟩ : ∃ L,L=x.ah.map BN:=⟨_,rfl⟩
 have hLl:L.length=x.ah.length:=by rw [hL,List.length_map]
 have hLj:∀ (j:Nat) (m:Mem),x.ah[j]?=some m→L[j]?=some (BN m):=fun j m h => by rw [hL,List.getElem?_map,h];rfl
 have HSM:=hiQ hsm;have HCD:=hiQ hcd;have HLJ:=hiQ hLj;have YW:=hiQ hLl;have hpf:(F6 x.opn).length≤10:=bg _;have hpn:=bg x.ah.length;have hs:dF x=pJ 9 6 ++ (F6 x.opn ++ (pJ 9 x.ah.length ++ L.flatten)):=by
  unfold dF;rw [hL];simp [hk,List.flatMap_def]
 rw [hs];clear hL hs hsm hLj hLl hcd;obtain ⟨C1,l1,C2,l2,rfl,rfl,-,-⟩:=ht.forms;have HT:=hiQ ht;have HP0:Hid (∀ W,Calls Tryz.prog 50 #[.int .i64 6] W (rG (pJ 9 6) W)):=fun W => alA 6 (by decide) W;have hp0:=bg 6;clear ht;show Calls _ _ #[.agg #[.int .i64 x.kind,.string ⟨x.name.toArray⟩,.int .i64 x.low,.int .i64 x.high,.int .i64 x.max,.slice C1 x.syms.length l1,.slice C2 x.ah.length l2,.int .i64 x.key,.int .i64 x.elem,.bool x.opn]] _ _;rw [hk];go_enter Tryz.func51,Tryz.ntmps51
 go_upto_region 1 with fail;refine aO (fun wd2 hb1 X => ?_);have hw3:=hb1;clear hb1;have aK:=X.out.e0;go_wp2_with fail;clear aK;((with_reducible refine (HP0.out _).mono ?_);rintro e wd4 ⟨rfl,hb5⟩);replace X:=b1 X hb5;replace hw3:=dT hw3 hb5;clear hb5;have Ic:¬ 9223372036854775807 < (pJ 9 6).length+(F6 x.opn).length:=by omega
 have akm:¬ 9223372036854775807 < (pJ 9 6).length+(F6 x.opn).length+(pJ 9 x.ah.length).length:=by omega
 have aK:=X.out.e0;have dU:=X.out.e9;go_wp2_with fail;clear aK dU;((with_reducible refine (aAL x.opn _).mono ?_);rintro e wL ⟨rfl,hb7⟩);replace X:=b1 X hb7;replace hw3:=dT hw3 hb7;clear hb7;have bU:=X.out.e6;go_wp2_with fail;clear bU;((with_reducible refine (alA x.ah.length (by omega) _).mono ?_);rintro e qP ⟨rfl,zU⟩);replace X:=b1 X zU;replace hw3:=dT hw3 zU;clear zU;go_upto_region 24 with fail;rw [qO,qO];obtain ⟨p0,auv⟩ : ∃ p,p=pJ 9 6 ++ F6 x.opn ++ pJ 9 x.ah.length:=⟨_,rfl⟩
 have aHN:p0.length≤40:=by rw [auv];simp only [List.length_append];omega
 rw [← auv];have HPQ:=hiQ auv;have hX0:=X.out;clear auv Ic akm;go_upto_region 25 with fail;go_loopw [3,5] (fun s3 s5 wr => ∃ j:Nat,j≤x.ah.length∧s5 = .int .i64 j∧s3 = .string ⟨(p0 ++ (L.take j).flatten).toArray⟩∧((L.take j).flatten).length≤30*j∧Below w.heap.size w wr∧Has wr w.heap.size 71 #[.int .i64 6,.string ⟨x.name.toArray⟩,.int .i64 x.low,.int .i64 x.high,.int .i64 x.max,.slice C1 x.syms.length l1,.slice C2 x.ah.length l2,.int .i64 x.key,.int .i64 x.elem,.bool x.opn]) (fun _ s5 _ => x.ah.length - (intOf s5).toNat)
 case atStart => exact ⟨0,Nat.zero_le _,rfl,by simp,by simp,hw3,hX0⟩
 case round =>
  clear X hX0;obtain ⟨j,hjl,rfl,rfl,hfl,hb0,X⟩:=hrel;replace X:=hiQ X;by_cases hlt:j < x.ah.length
  ·
   obtain ⟨b6,o6,hC2,hb6,hc6⟩:=HT.out.ah.elem (by omega);obtain ⟨k1,k2,k3,hmc,-⟩:=hc6 j hlt;have TK:=HLJ.out j _ (List.getElem?_eq_getElem hlt);have hss:=HSM.out _ (List.getElem_mem hlt);have hcd:=HCD.out _ (List.getElem_mem hlt);have V5:j < L.length:=by have:=YW.out;omega
   rw [List.getElem?_eq_getElem V5] at TK;have hnx:=aAM L j V5;rw [Option.some.inj TK] at hnx;replace hmc:=aD1 hmc hb0 hb6;generalize x.ah[j]=m at *;obtain ⟨mi,mn,mt,mc,mh,mf⟩:=m;simp only at hss hcd;obtain ⟨a,ha,ha2,hal⟩:=alq hss.1;obtain ⟨d,hd,hd2,hdl⟩:=alq hss.2;obtain ⟨g,hg⟩ : ∃ g,g=BN ⟨mi,mn,mt,mc,mh,mf⟩:=⟨_,rfl⟩
   have hgl:g.length≤30:=by
    exact zFz
   have MB:Hid (∀ W,Calls Tryz.prog 89 #[.agg #[.int .i64 mi,.string ⟨mn.toArray⟩,.int .i64 mt,.bool mc,.bool mh,.int .i64 mf.kind,.bool mf.bool,.int .i64 mf.num,.string ⟨mf.str.toArray⟩,.int .i64 mf.id,k1,k2,k3]] W (rG g W)):=fun W => by
    exact zGn
   rw [← hg] at hnx;have Y4:=hiQ hnx;obtain ⟨pr,hpr⟩ : ∃ p,p=p0 ++ (L.take j).flatten:=⟨_,rfl⟩
   have aHO:pr.length≤40+30*j:=by rw [hpr,List.length_append];omega
   have azL:((L.take (j+1)).flatten).length≤30*(j+1):=by rw [hnx,List.length_append];omega
   have HFL:=hiQ azL;rw [← hpr];have HPR:=hiQ hpr;have Ic:¬ 9223372036854775807 < pr.length+g.length:=by omega
   have hi1:(j:Int) < x.ah.length:=by omega
   have hd0:decide ((j:Int) < 0)=false:=by simp
   have hd1:decide (x.ah.length≤j)=false:=by simpa using hlt
   obtain ⟨a0,a1,a2,a3,a4,a5,a6,a7,a8,a9,a10,a11,a12⟩:=hmc;clear hc6 TK hss hcd hnx hpr azL ha ha2 hd hd2 hfl hg;subst hC2;have bU:=X.out.e6;go_wp2_with fail;clear a0 a1 a2 a3 a4 a5 a6 a7 a8 a9 a10 a11 a12 bU;((with_reducible refine (MB.out _).mono ?_);rintro e kL ⟨rfl,iR⟩);replace X:=b1 X iR;replace hb0:=dT hb0 iR;clear iR;exact zDw
  exact zFf
theorem aGh (x:ay) (vs vm:Value) (hk:1≤x.kind∧x.kind≤9) (ho:aow x) (hcd:∀ m ∈ x.ah,¬ (m.akb=true∧m.eG=true)) (w:World) (ht:jc w w.heap.size x vs vm):Calls Tryz.prog 51 #[dA x vs vm] w (rG (dF x) w):=by
 have hcs:x.kind=1∨x.kind=2∨x.kind=3∨x.kind=4∨x.kind=5∨x.kind=6∨x.kind=7∨x.kind=8∨x.kind=9:=by omega
 rcases hcs with h | h | h | h | h | h | h | h | h
 · exact aIS x vs vm h w ht
 · exact aIT x vs vm h w ht
 · exact aIU x vs vm h ho w ht
 · exact aIP x vs vm h ho w ht
 · exact aIQ x vs vm h ho hcd w ht
 · exact aIR x vs vm h ho hcd w ht
 · exact aIV x vs vm h ho w ht
 · exact aIW x vs vm h ho w ht
 exact aIX x vs vm h ho w ht
end Go.Proofs.YtlamhkffnlgofaaGreatDoor
