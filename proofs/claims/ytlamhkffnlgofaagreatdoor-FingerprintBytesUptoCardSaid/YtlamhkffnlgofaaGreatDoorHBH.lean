/- What sheaveref19's member and single compute: the bytes of a member and of a type. Condition: the type is well-formed and its numbers are small. What sheaveref19.single computes of an enum, a record, a union: its bytes. Condition: the type's numbers are small, and no member is critical and has a default. No condition. -/
import Derived.Test.YtlamhkffnlgofaaGreatDoorHBG
set_option maxHeartbeats 1600000
set_option maxRecDepth 100000
namespace Go.Proofs.YtlamhkffnlgofaaGreatDoor
open Go.ChangeShapes Go.WideShapes Go.ChangeAt Go.RowKit
theorem zKh {p:Prop} (h:p:=by exact ⟨M.out.cell 0,M.out.cell 2⟩):p:=h
theorem zKm {p:Prop} (h:p:=by
 go_enter Tryz.func89,Tryz.ntmps89
 go_upto_region 1 with fail;refine aO (fun wd2 hb1 M => ?_);have hw3:=hb1;clear hb1;have mQ:=M.out.e3;have kK:=M.out.e4;go_upto_region 6 with fail;clear mQ kK;have iU:=M.out.e0;have je:=M.out.e2;refine wp_region_held_drew (S:=(fun w' => w'.cell? ⟨w.heap.size,0,none⟩=some (.int .i64 (a:Nat))∧w'.cell? ⟨w.heap.size,2,none⟩=some (.int .i64 (d:Nat)))) (by kernel_rfl) ⟨iU,je⟩ (fun hHeld => ?_);clear iU je;have hb4:Below wd2.heap.size wd2 (wd2.drew):=(Below.refl _ _).drew;replace M:=b1 M hb4;replace hw3:=dT hw3 hb4;clear hb4;generalize wd2.drew=fG at *;refine tk 0 ?_;refine tk 1 ?_;refine tk 3 ?_;refine tk 6 ?_;refine tk 7 ?_;refine iE 2 fun K hK => ?_;go_simp;((with_reducible refine (alA a (by omega) _).mono ?_);rintro e wL ⟨rfl,hb7⟩);replace M:=b1 M hb7;replace hw3:=dT hw3 hb7;clear hb7;(try clear hHeld);refine hK.out _ _ zKh (fun hHeld => ?_);clear hK K;refine iE 4 fun K hK => ?_;go_simp;((with_reducible refine (HP2.out _).mono ?_);rintro e qP ⟨rfl,zU⟩);replace M:=b1 M zU;replace hw3:=dT hw3 zU;clear zU;(try clear hHeld);refine hK.out _ _ zKh (fun hHeld => ?_);clear hK K;refine tk 5 ?_;refine iE 8 fun K hK => ?_;go_simp;((with_reducible refine (alA d (by omega) _).mono ?_);rintro e kL ⟨rfl,iR⟩);replace M:=b1 M iR;replace hw3:=dT hw3 iR;clear iR;(try clear hHeld);refine hK.out _ _ zKh (fun hHeld => ?_);clear hK K;refine tk 9 ?_;refine tk 10 ?_;refine wpAnyH_done (by kernel_rfl) ?_ _;(try clear hHeld);go_wp2_with fail;go_ret;exact ⟨by rw [← List.append_assoc];rfl,hw3⟩):p:=h
theorem aB1 (a d:Nat) (ha:a≤1000000) (hd:d≤1000000) (mn:List UInt8) (mc mh:Bool) (hcd:¬ (mc=true∧mh=true)) (mf:Val) (vk vi vr:Value) (w:World) :
  Calls Tryz.prog 89 #[.agg #[.int .i64 (a:Nat),.string ⟨mn.toArray⟩,.int .i64 (d:Nat),.bool mc,.bool mh,.int .i64 mf.kind,.bool mf.bool,.int .i64 mf.num,.string ⟨mf.str.toArray⟩,.int .i64 mf.id,vk,vi,vr]] w (an1 (pJ 9 a ++ (pJ 9 (if mc then 1 else if mh then 2 else 0) ++ pJ 9 d)) w):=by
 have h1:=fK a;have h2:=fK d;cases mc with
 | true =>
  cases mh with
  | true => exact absurd ⟨rfl,rfl⟩ hcd
  | false =>
   have HP2:Hid (∀ W,Calls Tryz.prog 50 #[.int .i64 1] W (an1 (pJ 9 1) W)):=fun W => alA 1 (by decide) W;have hp2:=fK 1;have Ic:¬ 9223372036854775807 < (pJ 9 a).length+(pJ 9 1).length:=by omega
   have akm:¬ 9223372036854775807 < (pJ 9 a).length+(pJ 9 1).length+(pJ 9 d).length:=by omega
   exact zKm
 | false =>
  cases mh with
  | true =>
   have HP2:Hid (∀ W,Calls Tryz.prog 50 #[.int .i64 2] W (an1 (pJ 9 2) W)):=fun W => alA 2 (by decide) W;have hp2:=fK 2;have Ic:¬ 9223372036854775807 < (pJ 9 a).length+(pJ 9 2).length:=by omega
   have akm:¬ 9223372036854775807 < (pJ 9 a).length+(pJ 9 2).length+(pJ 9 d).length:=by omega
   exact zKm
  | false =>
   have HP2:Hid (∀ W,Calls Tryz.prog 50 #[.int .i64 0] W (an1 (pJ 9 0) W)):=fun W => alA 0 (by decide) W;have hp2:=fK 0;have Ic:¬ 9223372036854775807 < (pJ 9 a).length+(pJ 9 0).length:=by omega
   have akm:¬ 9223372036854775807 < (pJ 9 a).length+(pJ 9 0).length+(pJ 9 d).length:=by omega
   exact zKm
theorem aIS (x:ay) (vs vm:Value) (hk:x.kind=1) (w:World) (ht:jc w w.heap.size x vs vm):Calls Tryz.prog 51 #[dA x vs vm] w (an1 (kS x) w):=by
 have hs:kS x=pJ 9 1:=by unfold kS;simp [hk]
 rw [hs];obtain ⟨C1,l1,C2,l2,rfl,rfl,-,-⟩:=ht.forms;have HT:=hiQ ht;have HP0:Hid (∀ W,Calls Tryz.prog 50 #[.int .i64 1] W (an1 (pJ 9 1) W)):=fun W => alA 1 (by decide) W;have hp0:=fK 1;clear ht;show Calls _ _ #[.agg #[.int .i64 x.kind,.string ⟨x.name.toArray⟩,.int .i64 x.low,.int .i64 x.high,.int .i64 x.max,.slice C1 x.syms.length l1,.slice C2 x.ah.length l2,.int .i64 x.key,.int .i64 x.elem,.bool x.opn]] _ _;rw [hk];go_enter Tryz.func51,Tryz.ntmps51
 go_upto_region 1 with fail;refine aO (fun wd2 hb1 X => ?_);have hw3:=hb1;clear hb1;have aK:=X.out.e0;go_wp2_with fail;clear aK;((with_reducible refine (HP0.out _).mono ?_);rintro e wd4 ⟨rfl,hb5⟩);replace X:=b1 X hb5;replace hw3:=dT hw3 hb5;clear hb5;have aK:=X.out.e0;exact zDb
theorem zLh {p:Prop} (h:p:=by
 ((with_reducible refine (alA u (by omega) _).mono ?_);rintro e wL ⟨rfl,hb7⟩);replace X:=b1 X hb7;replace hw3:=dT hw3 hb7;clear hb7;exact zDb):p:=h
theorem aIU (x:ay) (vs vm:Value) (hk:x.kind=3) (ho:aow x) (w:World) (ht:jc w w.heap.size x vs vm):Calls Tryz.prog 51 #[dA x vs vm] w (an1 (kS x) w):=by
 obtain ⟨u,hu,hu2,Wn⟩:=alq ho.max;have hs:kS x=pJ 9 3 ++ pJ 9 u:=by unfold kS;simp [hk,hu2]
 have HU:=hiQ hu;have hpu:=fK u;rw [hs];clear hu hu2;obtain ⟨C1,l1,C2,l2,rfl,rfl,-,-⟩:=ht.forms;have HT:=hiQ ht;have HP0:Hid (∀ W,Calls Tryz.prog 50 #[.int .i64 3] W (an1 (pJ 9 3) W)):=fun W => alA 3 (by decide) W;have hp0:=fK 3;clear ht;show Calls _ _ #[.agg #[.int .i64 x.kind,.string ⟨x.name.toArray⟩,.int .i64 x.low,.int .i64 x.high,.int .i64 x.max,.slice C1 x.syms.length l1,.slice C2 x.ah.length l2,.int .i64 x.key,.int .i64 x.elem,.bool x.opn]] _ _;rw [hk];go_enter Tryz.func51,Tryz.ntmps51
 go_upto_region 1 with fail;refine aO (fun wd2 hb1 X => ?_);have hw3:=hb1;clear hb1;have aK:=X.out.e0;go_wp2_with fail;clear aK;((with_reducible refine (HP0.out _).mono ?_);rintro e wd4 ⟨rfl,hb5⟩);replace X:=b1 X hb5;replace hw3:=dT hw3 hb5;clear hb5;have Ic:¬ 9223372036854775807 < (pJ 9 3).length+(pJ 9 u).length:=by omega
 have aK:=X.out.e0;have dL:=X.out.e4;rw [HU.out] at dL;go_wp2_with fail;clear aK dL;exact zLh
theorem aIX (x:ay) (vs vm:Value) (hk:x.kind=9) (ho:aow x) (w:World) (ht:jc w w.heap.size x vs vm):Calls Tryz.prog 51 #[dA x vs vm] w (an1 (kS x) w):=by
 obtain ⟨u,hu,hu2,Wn⟩:=alq ho.elem;have hs:kS x=pJ 9 9 ++ pJ 9 u:=by unfold kS;simp [hk,hu2]
 have HU:=hiQ hu;have hpu:=fK u;rw [hs];clear hu hu2;obtain ⟨C1,l1,C2,l2,rfl,rfl,-,-⟩:=ht.forms;have HT:=hiQ ht;have HP0:Hid (∀ W,Calls Tryz.prog 50 #[.int .i64 9] W (an1 (pJ 9 9) W)):=fun W => alA 9 (by decide) W;have hp0:=fK 9;clear ht;show Calls _ _ #[.agg #[.int .i64 x.kind,.string ⟨x.name.toArray⟩,.int .i64 x.low,.int .i64 x.high,.int .i64 x.max,.slice C1 x.syms.length l1,.slice C2 x.ah.length l2,.int .i64 x.key,.int .i64 x.elem,.bool x.opn]] _ _;rw [hk];go_enter Tryz.func51,Tryz.ntmps51
 go_upto_region 1 with fail;refine aO (fun wd2 hb1 X => ?_);have hw3:=hb1;clear hb1;have aK:=X.out.e0;go_wp2_with fail;clear aK;((with_reducible refine (HP0.out _).mono ?_);rintro e wd4 ⟨rfl,hb5⟩);replace X:=b1 X hb5;replace hw3:=dT hw3 hb5;clear hb5;have Ic:¬ 9223372036854775807 < (pJ 9 9).length+(pJ 9 u).length:=by omega
 have aK:=X.out.e0;have dM:=X.out.e8;rw [HU.out] at dM;go_wp2_with fail;clear aK dM;exact zLh
theorem zKp {p:Prop} (h:p:=by
 refine wpAnyH_done (by kernel_rfl) ?_ _;(try clear hHeld);go_wp2_with fail;go_ret;exact ⟨by rw [← List.append_assoc];rfl,hw3⟩):p:=h
theorem aIV (x:ay) (vs vm:Value) (hk:x.kind=7) (ho:aow x) (w:World) (ht:jc w w.heap.size x vs vm):Calls Tryz.prog 51 #[dA x vs vm] w (an1 (kS x) w):=by
 obtain ⟨u,hu,hu2,Wn⟩:=alq ho.max;obtain ⟨d,hd,hd2,hdl⟩:=alq ho.elem;have hs:kS x=pJ 9 7 ++ (pJ 9 u ++ pJ 9 d):=by unfold kS;simp [hk,hu2,hd2]
 have HU:=hiQ hu;have HD:=hiQ hd;have hpu:=fK u;have YR:=fK d;rw [hs];clear hu hu2 hd hd2;obtain ⟨C1,l1,C2,l2,rfl,rfl,-,-⟩:=ht.forms;have HT:=hiQ ht;have HP0:Hid (∀ W,Calls Tryz.prog 50 #[.int .i64 7] W (an1 (pJ 9 7) W)):=fun W => alA 7 (by decide) W;have hp0:=fK 7;clear ht;show Calls _ _ #[.agg #[.int .i64 x.kind,.string ⟨x.name.toArray⟩,.int .i64 x.low,.int .i64 x.high,.int .i64 x.max,.slice C1 x.syms.length l1,.slice C2 x.ah.length l2,.int .i64 x.key,.int .i64 x.elem,.bool x.opn]] _ _;rw [hk];go_enter Tryz.func51,Tryz.ntmps51
 go_upto_region 1 with fail;refine aO (fun wd2 hb1 X => ?_);have hw3:=hb1;clear hb1;have aK:=X.out.e0;go_wp2_with fail;clear aK;((with_reducible refine (HP0.out _).mono ?_);rintro e wd4 ⟨rfl,hb5⟩);replace X:=b1 X hb5;replace hw3:=dT hw3 hb5;clear hb5;have Ic:¬ 9223372036854775807 < (pJ 9 7).length+(pJ 9 u).length:=by omega
 have akm:¬ 9223372036854775807 < (pJ 9 7).length+(pJ 9 u).length+(pJ 9 d).length:=by omega
 have aK:=X.out.e0;go_upto_region 8 with fail;clear aK;have dL:=X.out.e4;have dM:=X.out.e8;refine wp_region_held_drew (S:=(fun w' => w'.cell? ⟨w.heap.size,4,none⟩=some (.int .i64 x.max)∧w'.cell? ⟨w.heap.size,8,none⟩=some (.int .i64 x.elem))) (by kernel_rfl) ⟨dL,dM⟩ (fun hHeld => ?_);clear dL dM;have hb6:Below wd4.heap.size wd4 (wd4.drew):=(Below.refl _ _).drew;replace X:=b1 X hb6;replace hw3:=dT hw3 hb6;clear hb6;generalize wd4.drew=jC at *;refine tk 0 ?_;refine tk 1 ?_;refine tk 2 ?_;refine tk 5 ?_;refine tk 6 ?_;refine iE 3 fun K hK => ?_;go_simp;rw [HU.out];((with_reducible refine (alA u (by omega) _).mono ?_);rintro e qP ⟨rfl,zU⟩);replace X:=b1 X zU;replace hw3:=dT hw3 zU;clear zU;(try clear hHeld);refine hK.out _ _ (⟨X.out.cell 4,X.out.cell 8⟩) (fun hHeld => ?_);clear hK K;refine tk 4 ?_;refine iE 7 fun K hK => ?_;go_simp;rw [HD.out];((with_reducible refine (alA d (by omega) _).mono ?_);rintro e kL ⟨rfl,iR⟩);replace X:=b1 X iR;replace hw3:=dT hw3 iR;clear iR;(try clear hHeld);refine hK.out _ _ (⟨X.out.cell 4,X.out.cell 8⟩) (fun hHeld => ?_);clear hK K;refine tk 8 ?_;refine tk 9 ?_;exact zKp
theorem zKi {p:Prop} (h:p:=by exact ⟨X.out.cell 4,⟨X.out.cell 7,X.out.cell 8⟩⟩):p:=h
theorem aIW (x:ay) (vs vm:Value) (hk:x.kind=8) (ho:aow x) (w:World) (ht:jc w w.heap.size x vs vm):Calls Tryz.prog 51 #[dA x vs vm] w (an1 (kS x) w):=by
 obtain ⟨u,hu,hu2,Wn⟩:=alq ho.max;obtain ⟨k,hkk,hk2,hkl⟩:=alq ho.key;obtain ⟨d,hd,hd2,hdl⟩:=alq ho.elem;have hs:kS x=pJ 9 8 ++ (pJ 9 u ++ (pJ 9 k ++ pJ 9 d)):=by unfold kS;simp [hk,hu2,hk2,hd2]
 have HU:=hiQ hu;have HKK:=hiQ hkk;have HD:=hiQ hd;have hpu:=fK u;have hpk:=fK k;have YR:=fK d;rw [hs];clear hu hu2 hd hd2 hkk hk2;obtain ⟨C1,l1,C2,l2,rfl,rfl,-,-⟩:=ht.forms;have HT:=hiQ ht;have HP0:Hid (∀ W,Calls Tryz.prog 50 #[.int .i64 8] W (an1 (pJ 9 8) W)):=fun W => alA 8 (by decide) W;have hp0:=fK 8;clear ht;show Calls _ _ #[.agg #[.int .i64 x.kind,.string ⟨x.name.toArray⟩,.int .i64 x.low,.int .i64 x.high,.int .i64 x.max,.slice C1 x.syms.length l1,.slice C2 x.ah.length l2,.int .i64 x.key,.int .i64 x.elem,.bool x.opn]] _ _;rw [hk];go_enter Tryz.func51,Tryz.ntmps51
 go_upto_region 1 with fail;refine aO (fun wd2 hb1 X => ?_);have hw3:=hb1;clear hb1;have aK:=X.out.e0;go_wp2_with fail;clear aK;((with_reducible refine (HP0.out _).mono ?_);rintro e wd4 ⟨rfl,hb5⟩);replace X:=b1 X hb5;replace hw3:=dT hw3 hb5;clear hb5;have Ic:¬ 9223372036854775807 < (pJ 9 8).length+(pJ 9 u).length:=by omega
 have akm:¬ 9223372036854775807 < (pJ 9 8).length+(pJ 9 u).length+(pJ 9 k).length:=by omega
 have aKs:¬ 9223372036854775807 < (pJ 9 8).length+(pJ 9 u).length+(pJ 9 k).length+(pJ 9 d).length:=by omega
 have aK:=X.out.e0;go_upto_region 10 with fail;clear aK;obtain ⟨-,-,-,-,dL,-,-,dD,dM,-⟩:=X.out.c10;refine wp_region_held_drew (S:=(fun w' => w'.cell? ⟨w.heap.size,4,none⟩=some (.int .i64 x.max)∧w'.cell? ⟨w.heap.size,7,none⟩=some (.int .i64 x.key)∧w'.cell? ⟨w.heap.size,8,none⟩=some (.int .i64 x.elem))) (by kernel_rfl) ⟨dL,dD,dM⟩ (fun hHeld => ?_);clear dL dD dM;have hb6:Below wd4.heap.size wd4 (wd4.drew):=(Below.refl _ _).drew;replace X:=b1 X hb6;replace hw3:=dT hw3 hb6;clear hb6;generalize wd4.drew=jC at *;refine tk 0 ?_;refine tk 1 ?_;refine tk 2 ?_;refine tk 5 ?_;refine tk 6 ?_;refine tk 9 ?_;refine tk 10 ?_;refine iE 3 fun K hK => ?_;go_simp;rw [HU.out];((with_reducible refine (alA u (by omega) _).mono ?_);rintro e qP ⟨rfl,zU⟩);replace X:=b1 X zU;replace hw3:=dT hw3 zU;clear zU;(try clear hHeld);refine hK.out _ _ zKi (fun hHeld => ?_);clear hK K;refine tk 4 ?_;refine iE 7 fun K hK => ?_;go_simp;rw [HKK.out];((with_reducible refine (alA k (by omega) _).mono ?_);rintro e kL ⟨rfl,iR⟩);replace X:=b1 X iR;replace hw3:=dT hw3 iR;clear iR;(try clear hHeld);refine hK.out _ _ zKi (fun hHeld => ?_);clear hK K;refine tk 8 ?_;refine iE 11 fun K hK => ?_;go_simp;rw [HD.out];((with_reducible refine (alA d (by omega) _).mono ?_);rintro e lZ ⟨rfl,kR⟩);replace X:=b1 X kR;replace hw3:=dT hw3 kR;clear kR;(try clear hHeld);refine hK.out _ _ zKi (fun hHeld => ?_);clear hK K;refine tk 12 ?_;refine tk 13 ?_;refine wpAnyH_done (by kernel_rfl) ?_ _;(try clear hHeld);go_wp2_with fail;go_ret;exact ⟨by rw [← List.append_assoc,← List.append_assoc];rfl,hw3⟩
theorem zKj {p:Prop} (h:p:=by exact ⟨X.out.cell 2,X.out.cell 3⟩):p:=h
theorem aIT (x:ay) (vs vm:Value) (hk:x.kind=2) (w:World) (ht:jc w w.heap.size x vs vm):Calls Tryz.prog 51 #[dA x vs vm] w (an1 (kS x) w):=by
 have hlo:I64 x.low:=ht.ints.2.1;have hhi:I64 x.high:=ht.ints.2.2.1;obtain ⟨u,hu,Wn⟩ : ∃ z:Nat,zig x.low=(z:Int)∧oV z:=by
  have h:=TT x.low hlo;exact ⟨(zig x.low).toNat,by omega,by unfold oV;omega⟩
 obtain ⟨d,hd,hdl⟩ : ∃ z:Nat,zig x.high=(z:Int)∧oV z:=by
  have h:=TT x.high hhi;exact ⟨(zig x.high).toNat,by omega,by unfold oV;omega⟩
 have hs:kS x=pJ 9 2 ++ (pJ 9 u ++ pJ 9 d):=by
  unfold kS akT;rw [hu,hd];simp [hk]
 have HZ1:=hiQ (fun W => aCb x.low hlo W);have HZ2:=hiQ (fun W => aCb x.high hhi W);rw [hu] at HZ1;rw [hd] at HZ2;have hpu:=fK u;have YR:=fK d;rw [hs];clear hu hd hlo hhi;obtain ⟨C1,l1,C2,l2,rfl,rfl,-,-⟩:=ht.forms;have HT:=hiQ ht;have HP0:Hid (∀ W,Calls Tryz.prog 50 #[.int .i64 2] W (an1 (pJ 9 2) W)):=fun W => alA 2 (by decide) W;have hp0:=fK 2;clear ht;show Calls _ _ #[.agg #[.int .i64 x.kind,.string ⟨x.name.toArray⟩,.int .i64 x.low,.int .i64 x.high,.int .i64 x.max,.slice C1 x.syms.length l1,.slice C2 x.ah.length l2,.int .i64 x.key,.int .i64 x.elem,.bool x.opn]] _ _;rw [hk];go_enter Tryz.func51,Tryz.ntmps51
 go_upto_region 1 with fail;refine aO (fun wd2 hb1 X => ?_);have hw3:=hb1;clear hb1;have aK:=X.out.e0;go_wp2_with fail;clear aK;((with_reducible refine (HP0.out _).mono ?_);rintro e wd4 ⟨rfl,hb5⟩);replace X:=b1 X hb5;replace hw3:=dT hw3 hb5;clear hb5;have Ic:¬ 9223372036854775807 < (pJ 9 2).length+(pJ 9 u).length:=by omega
 have akm:¬ 9223372036854775807 < (pJ 9 2).length+(pJ 9 u).length+(pJ 9 d).length:=by omega
 have aK:=X.out.e0;go_upto_region 4 with fail;clear aK;have bY:=X.out.e2;have bZ:=X.out.e3;refine wp_region_held_drew (S:=(fun w' => w'.cell? ⟨w.heap.size,2,none⟩=some (.int .i64 x.low)∧w'.cell? ⟨w.heap.size,3,none⟩=some (.int .i64 x.high))) (by kernel_rfl) ⟨bY,bZ⟩ (fun hHeld => ?_);clear bY bZ;have hb6:Below wd4.heap.size wd4 (wd4.drew):=(Below.refl _ _).drew;replace X:=b1 X hb6;replace hw3:=dT hw3 hb6;clear hb6;generalize wd4.drew=jC at *;refine tk 0 ?_;refine tk 1 ?_;refine tk 2 ?_;refine tk 6 ?_;refine tk 7 ?_;refine iE 3 fun K hK => ?_;go_simp;((with_reducible refine (HZ1.out _).mono ?_);rintro e qP ⟨rfl,rfl⟩);(try clear hHeld);refine hK.out _ _ zKj (fun hHeld => ?_);clear hK K;refine iE 4 fun K hK => ?_;go_simp;((with_reducible refine (azj u Wn _).mono ?_);rintro e kL ⟨rfl,iR⟩);replace X:=b1 X iR;replace hw3:=dT hw3 iR;clear iR;(try clear hHeld);refine hK.out _ _ zKj (fun hHeld => ?_);clear hK K;refine tk 5 ?_;refine iE 8 fun K hK => ?_;go_simp;((with_reducible refine (HZ2.out _).mono ?_);rintro e lZ ⟨rfl,rfl⟩);(try clear hHeld);refine hK.out _ _ zKj (fun hHeld => ?_);clear hK K;refine iE 9 fun K hK => ?_;go_simp;((with_reducible refine (azj d hdl _).mono ?_);rintro e oZ ⟨rfl,o7⟩);replace X:=b1 X o7;replace hw3:=dT hw3 o7;clear o7;(try clear hHeld);refine hK.out _ _ zKj (fun hHeld => ?_);clear hK K;refine tk 10 ?_;refine tk 11 ?_;exact zKp
theorem zKr {p:Prop} (h:p:=by
 go_wp2_with fail;go_roundw
 case rel => exact ⟨j+1,by omega,by go_num,by rw [HNX.out,← List.append_assoc,← HPR.out,qO],HFL.out,hb0,X.out⟩
 case measure => simp [intOf];omega):p:=h
theorem aIP (x:ay) (vs vm:Value) (hk:x.kind=4) (ho:aow x) (w:World) (ht:jc w w.heap.size x vs vm):Calls Tryz.prog 51 #[dA x vs vm] w (an1 (kS x) w):=by
 obtain ⟨hsl,hsm⟩:=ho.syms;obtain ⟨L,hL⟩ : ∃ L,L=x.syms.map fun s => pJ 9 s.1.toNat:=⟨_,rfl⟩
 have hs:kS x=pJ 9 4 ++ (Z4 x.opn ++ (pJ 9 x.syms.length ++ L.flatten)):=by
  unfold kS;rw [hL];simp [hk,List.flatMap_def]
 have hLl:L.length=x.syms.length:=by rw [hL,List.length_map]
 have hLj:∀ (j:Nat) (s:Raw),x.syms[j]?=some s→L[j]?=some (pJ 9 s.1.toNat):=fun j s h => by rw [hL,List.getElem?_map,h];rfl
 have HSM:=hiQ hsm;have HLJ:=hiQ hLj;have YW:=hiQ hLl;have hpf:(Z4 x.opn).length≤10:=fK _;have hpn:=fK x.syms.length;rw [hs];clear hL hs hsm hLj hLl;obtain ⟨C1,l1,C2,l2,rfl,rfl,-,-⟩:=ht.forms;have HT:=hiQ ht;have HP0:Hid (∀ W,Calls Tryz.prog 50 #[.int .i64 4] W (an1 (pJ 9 4) W)):=fun W => alA 4 (by decide) W;have hp0:=fK 4;clear ht;show Calls _ _ #[.agg #[.int .i64 x.kind,.string ⟨x.name.toArray⟩,.int .i64 x.low,.int .i64 x.high,.int .i64 x.max,.slice C1 x.syms.length l1,.slice C2 x.ah.length l2,.int .i64 x.key,.int .i64 x.elem,.bool x.opn]] _ _;rw [hk];go_enter Tryz.func51,Tryz.ntmps51
 go_upto_region 1 with fail;refine aO (fun wd2 hb1 X => ?_);have hw3:=hb1;clear hb1;have aK:=X.out.e0;go_wp2_with fail;clear aK;((with_reducible refine (HP0.out _).mono ?_);rintro e wd4 ⟨rfl,hb5⟩);replace X:=b1 X hb5;replace hw3:=dT hw3 hb5;clear hb5;have Ic:¬ 9223372036854775807 < (pJ 9 4).length+(Z4 x.opn).length:=by omega
 have akm:¬ 9223372036854775807 < (pJ 9 4).length+(Z4 x.opn).length+(pJ 9 x.syms.length).length:=by omega
 have aK:=X.out.e0;go_upto_region 14 with fail;clear aK;have eX:=X.out.e5;have dU:=X.out.e9;refine wp_region_held_drew (S:=(fun w' => w'.cell? ⟨w.heap.size,5,none⟩=some (.slice C1 x.syms.length l1)∧w'.cell? ⟨w.heap.size,9,none⟩=some (.bool x.opn))) (by kernel_rfl) ⟨eX,dU⟩ (fun hHeld => ?_);clear eX dU;have hb6:Below wd4.heap.size wd4 (wd4.drew):=(Below.refl _ _).drew;replace X:=b1 X hb6;replace hw3:=dT hw3 hb6;clear hb6;generalize wd4.drew=jC at *;refine tk 0 ?_;refine tk 1 ?_;refine tk 2 ?_;refine tk 5 ?_;refine tk 6 ?_;refine tk 7 ?_;refine iE 3 fun K hK => ?_;go_simp;((with_reducible refine (aAL x.opn _).mono ?_);rintro e qP ⟨rfl,zU⟩);replace X:=b1 X zU;replace hw3:=dT hw3 zU;clear zU;(try clear hHeld);refine hK.out _ _ (⟨X.out.cell 5,X.out.cell 9⟩) (fun hHeld => ?_);clear hK K;refine tk 4 ?_;refine iE 8 fun K hK => ?_;go_simp;((with_reducible refine (alA x.syms.length (by omega) _).mono ?_);rintro e kL ⟨rfl,iR⟩);replace X:=b1 X iR;replace hw3:=dT hw3 iR;clear iR;(try clear hHeld);refine hK.out _ _ (⟨X.out.cell 5,X.out.cell 9⟩) (fun hHeld => ?_);clear hK K;refine tk 9 ?_;refine tk 10 ?_;refine wpAnyH_done (by kernel_rfl) ?_ _;(try clear hHeld);rw [qO,qO];obtain ⟨p0,auv⟩ : ∃ p,p=pJ 9 4 ++ Z4 x.opn ++ pJ 9 x.syms.length:=⟨_,rfl⟩
 have aHN:p0.length≤30:=by rw [auv];simp only [List.length_append];omega
 rw [← auv];have HPQ:=hiQ auv;have hX0:=X.out;clear auv Ic akm;go_upto_region 16 with fail;go_loopw [3,4] (fun s3 s4 wr => ∃ j:Nat,j≤x.syms.length∧s4 = .int .i64 j∧s3 = .string ⟨(p0 ++ (L.take j).flatten).toArray⟩∧((L.take j).flatten).length≤10*j∧Below w.heap.size w wr∧Has wr w.heap.size 71 #[.int .i64 4,.string ⟨x.name.toArray⟩,.int .i64 x.low,.int .i64 x.high,.int .i64 x.max,.slice C1 x.syms.length l1,.slice C2 x.ah.length l2,.int .i64 x.key,.int .i64 x.elem,.bool x.opn]) (fun _ s4 _ => x.syms.length - (intOf s4).toNat)
 case atStart => exact ⟨0,Nat.zero_le _,rfl,by simp,by simp,hw3,hX0⟩
 case round =>
  clear X hX0;obtain ⟨j,hjl,rfl,rfl,hfl,hb0,X⟩:=hrel;replace X:=hiQ X;by_cases hlt:j < x.syms.length
  ·
   obtain ⟨b5,o5,hC1,hb5,hc5⟩:=HT.out.syms.at_ (by omega);have hk5:wr.cell? ⟨b5,o5+j*2,none⟩=some (.int .i64 x.syms[j].1):=((hb0).cell (p:=⟨b5,o5+j*2,none⟩) hb5).trans (hc5 (j*2) _ (flat_get Jl x.syms j 0 hlt (by decide)));have hLy:=HLJ.out j _ (List.getElem?_eq_getElem hlt);have hss:=HSM.out _ (List.getElem_mem hlt);have hjL:j < L.length:=by have:=YW.out;omega
   rw [List.getElem?_eq_getElem hjL] at hLy;have hnx:=aAM L j hjL;rw [Option.some.inj hLy] at hnx;generalize x.syms[j].1=yi at *;obtain ⟨u,hu,hu2,Wn⟩:=alq hss;rw [hu] at hk5;rw [hu2] at hnx;have hpu:=fK u;have HNX:=hiQ hnx;obtain ⟨pr,hpr⟩ : ∃ p,p=p0 ++ (L.take j).flatten:=⟨_,rfl⟩
   have aHO:pr.length≤30+10*j:=by rw [hpr,List.length_append];omega
   have azL:((L.take (j+1)).flatten).length≤10*(j+1):=by rw [hnx,List.length_append];omega
   have HFL:=hiQ azL;rw [← hpr];have HPR:=hiQ hpr;have Ic:¬ 9223372036854775807 < pr.length+(pJ 9 u).length:=by omega
   have hi1:(j:Int) < x.syms.length:=by omega
   have hd0:decide ((j:Int) < 0)=false:=by simp
   have hd1:decide (x.syms.length≤j)=false:=by simpa using hlt
   clear hc5 hLy hss hnx hpr azL hu hu2 hfl;subst hC1;have eX:=X.out.e5;go_wp2_with fail;clear hk5 eX;((with_reducible refine (alA u (by omega) _).mono ?_);rintro e lZ ⟨rfl,kR⟩);replace X:=b1 X kR;replace hb0:=dT hb0 kR;clear kR;exact zKr
  obtain rfl:j=x.syms.length:=by omega
  rw [List.take_of_length_le (by have:=YW.out;omega)];have eX:=X.out.e5;go_wp2_with fail;go_ret;exact ⟨by rw [HPQ.out];simp only [List.append_assoc];rfl,hb0⟩
theorem zKt {p:Prop} (h:p:=by
 obtain rfl:j=x.ah.length:=by omega
 rw [List.take_of_length_le (by have:=YW.out;omega)];have bU:=X.out.e6;go_wp2_with fail;go_ret;exact ⟨by rw [HPQ.out];simp only [List.append_assoc];rfl,hb0⟩):p:=h
theorem zKu {p:Prop} (h:p:=by
 have q1:=fK mi.toNat;have q2:=fK (O4 ⟨mi,mn,mt,mc,mh,mf⟩);have q3:=fK mt.toNat;rw [hg];unfold LY;simp only [List.length_append];omega):p:=h
theorem zKw {p:Prop} (h:p:=by
 rw [hg];unfold LY O4;simp only [ha2,hd2];rw [ha,hd];exact aB1 a d hal hdl mn mc mh hcd mf k1 k2 k3 W):p:=h
theorem aIQ (x:ay) (vs vm:Value) (hk:x.kind=5) (ho:aow x) (hcd:∀ m ∈ x.ah,¬ (m.akb=true∧m.eG=true)) (w:World) (ht:jc w w.heap.size x vs vm):Calls Tryz.prog 51 #[dA x vs vm] w (an1 (kS x) w):=by
 obtain ⟨hml,hsm⟩:=ho.ah;obtain ⟨L,hL⟩ : ∃ L,L=x.ah.map LY:=⟨_,rfl⟩
 have hLl:L.length=x.ah.length:=by rw [hL,List.length_map]
 have hLj:∀ (j:Nat) (m:Mem),x.ah[j]?=some m→L[j]?=some (LY m):=fun j m h => by rw [hL,List.getElem?_map,h];rfl
 have HSM:=hiQ hsm;have HCD:=hiQ hcd;have HLJ:=hiQ hLj;have YW:=hiQ hLl;have hpf:(Z4 x.opn).length≤10:=fK _;have hpn:=fK x.ah.length;have hs:kS x=pJ 9 5 ++ (pJ 9 x.ah.length ++ L.flatten):=by
  unfold kS;rw [hL];simp [hk,List.flatMap_def]
 rw [hs];clear hL hs hsm hLj hLl hcd;obtain ⟨C1,l1,C2,l2,rfl,rfl,-,-⟩:=ht.forms;have HT:=hiQ ht;have HP0:Hid (∀ W,Calls Tryz.prog 50 #[.int .i64 5] W (an1 (pJ 9 5) W)):=fun W => alA 5 (by decide) W;have hp0:=fK 5;clear ht;show Calls _ _ #[.agg #[.int .i64 x.kind,.string ⟨x.name.toArray⟩,.int .i64 x.low,.int .i64 x.high,.int .i64 x.max,.slice C1 x.syms.length l1,.slice C2 x.ah.length l2,.int .i64 x.key,.int .i64 x.elem,.bool x.opn]] _ _;rw [hk];go_enter Tryz.func51,Tryz.ntmps51
 go_upto_region 1 with fail;refine aO (fun wd2 hb1 X => ?_);have hw3:=hb1;clear hb1;have aK:=X.out.e0;go_wp2_with fail;clear aK;((with_reducible refine (HP0.out _).mono ?_);rintro e wd4 ⟨rfl,hb5⟩);replace X:=b1 X hb5;replace hw3:=dT hw3 hb5;clear hb5;have Ic:¬ 9223372036854775807 < (pJ 9 5).length+(pJ 9 x.ah.length).length:=by omega
 have aK:=X.out.e0;have bU:=X.out.e6;go_wp2_with fail;clear aK bU;((with_reducible refine (alA x.ah.length (by omega) _).mono ?_);rintro e wL ⟨rfl,hb7⟩);replace X:=b1 X hb7;replace hw3:=dT hw3 hb7;clear hb7;go_upto_region 24 with fail;rw [qO];obtain ⟨p0,auv⟩ : ∃ p,p=pJ 9 5 ++ pJ 9 x.ah.length:=⟨_,rfl⟩
 have aHN:p0.length≤40:=by rw [auv];simp only [List.length_append];omega
 rw [← auv];have HPQ:=hiQ auv;have hX0:=X.out;clear auv Ic;go_upto_region 25 with fail;go_loopw [3,5] (fun s3 s5 wr => ∃ j:Nat,j≤x.ah.length∧s5 = .int .i64 j∧s3 = .string ⟨(p0 ++ (L.take j).flatten).toArray⟩∧((L.take j).flatten).length≤30*j∧Below w.heap.size w wr∧Has wr w.heap.size 71 #[.int .i64 5,.string ⟨x.name.toArray⟩,.int .i64 x.low,.int .i64 x.high,.int .i64 x.max,.slice C1 x.syms.length l1,.slice C2 x.ah.length l2,.int .i64 x.key,.int .i64 x.elem,.bool x.opn]) (fun _ s5 _ => x.ah.length - (intOf s5).toNat)
 case atStart => exact ⟨0,Nat.zero_le _,rfl,by simp,by simp,hw3,hX0⟩
 case round =>
  clear X hX0;obtain ⟨j,hjl,rfl,rfl,hfl,hb0,X⟩:=hrel;replace X:=hiQ X;by_cases hlt:j < x.ah.length
  ·
   obtain ⟨b6,o6,hC2,hb6,hc6⟩:=HT.out.ah.elem (by omega);obtain ⟨k1,k2,k3,hmc,-⟩:=hc6 j hlt;have hLy:=HLJ.out j _ (List.getElem?_eq_getElem hlt);have hss:=HSM.out _ (List.getElem_mem hlt);have hcd:=HCD.out _ (List.getElem_mem hlt);have hjL:j < L.length:=by have:=YW.out;omega
   rw [List.getElem?_eq_getElem hjL] at hLy;have hnx:=aAM L j hjL;rw [Option.some.inj hLy] at hnx;replace hmc:=aD1 hmc hb0 hb6;generalize x.ah[j]=m at *;obtain ⟨mi,mn,mt,mc,mh,mf⟩:=m;simp only at hss hcd;obtain ⟨a,ha,ha2,hal⟩:=alq hss.1;obtain ⟨d,hd,hd2,hdl⟩:=alq hss.2;obtain ⟨g,hg⟩ : ∃ g,g=LY ⟨mi,mn,mt,mc,mh,mf⟩:=⟨_,rfl⟩
   have hgl:g.length≤30:=by
    exact zKu
   have MB:Hid (∀ W,Calls Tryz.prog 89 #[.agg #[.int .i64 mi,.string ⟨mn.toArray⟩,.int .i64 mt,.bool mc,.bool mh,.int .i64 mf.kind,.bool mf.bool,.int .i64 mf.num,.string ⟨mf.str.toArray⟩,.int .i64 mf.id,k1,k2,k3]] W (an1 g W)):=fun W => by
    exact zKw
   rw [← hg] at hnx;have HNX:=hiQ hnx;obtain ⟨pr,hpr⟩ : ∃ p,p=p0 ++ (L.take j).flatten:=⟨_,rfl⟩
   have aHO:pr.length≤40+30*j:=by rw [hpr,List.length_append];omega
   have azL:((L.take (j+1)).flatten).length≤30*(j+1):=by rw [hnx,List.length_append];omega
   have HFL:=hiQ azL;rw [← hpr];have HPR:=hiQ hpr;have Ic:¬ 9223372036854775807 < pr.length+g.length:=by omega
   have hi1:(j:Int) < x.ah.length:=by omega
   have hd0:decide ((j:Int) < 0)=false:=by simp
   have hd1:decide (x.ah.length≤j)=false:=by simpa using hlt
   obtain ⟨a0,a1,a2,a3,a4,a5,a6,a7,a8,a9,a10,a11,a12⟩:=hmc;clear hc6 hLy hss hcd hnx hpr azL ha ha2 hd hd2 hfl hg;subst hC2;have bU:=X.out.e6;go_wp2_with fail;clear a0 a1 a2 a3 a4 a5 a6 a7 a8 a9 a10 a11 a12 bU;((with_reducible refine (MB.out _).mono ?_);rintro e qP ⟨rfl,zU⟩);replace X:=b1 X zU;replace hb0:=dT hb0 zU;clear zU;exact zKr
  exact zKt
theorem aIR (x:ay) (vs vm:Value) (hk:x.kind=6) (ho:aow x) (hcd:∀ m ∈ x.ah,¬ (m.akb=true∧m.eG=true)) (w:World) (ht:jc w w.heap.size x vs vm):Calls Tryz.prog 51 #[dA x vs vm] w (an1 (kS x) w):=by
 obtain ⟨hml,hsm⟩:=ho.ah;obtain ⟨L,hL⟩ : ∃ L,L=x.ah.map LY:=⟨_,rfl⟩
 have hLl:L.length=x.ah.length:=by rw [hL,List.length_map]
 have hLj:∀ (j:Nat) (m:Mem),x.ah[j]?=some m→L[j]?=some (LY m):=fun j m h => by rw [hL,List.getElem?_map,h];rfl
 have HSM:=hiQ hsm;have HCD:=hiQ hcd;have HLJ:=hiQ hLj;have YW:=hiQ hLl;have hpf:(Z4 x.opn).length≤10:=fK _;have hpn:=fK x.ah.length;have hs:kS x=pJ 9 6 ++ (Z4 x.opn ++ (pJ 9 x.ah.length ++ L.flatten)):=by
  unfold kS;rw [hL];simp [hk,List.flatMap_def]
 rw [hs];clear hL hs hsm hLj hLl hcd;obtain ⟨C1,l1,C2,l2,rfl,rfl,-,-⟩:=ht.forms;have HT:=hiQ ht;have HP0:Hid (∀ W,Calls Tryz.prog 50 #[.int .i64 6] W (an1 (pJ 9 6) W)):=fun W => alA 6 (by decide) W;have hp0:=fK 6;clear ht;show Calls _ _ #[.agg #[.int .i64 x.kind,.string ⟨x.name.toArray⟩,.int .i64 x.low,.int .i64 x.high,.int .i64 x.max,.slice C1 x.syms.length l1,.slice C2 x.ah.length l2,.int .i64 x.key,.int .i64 x.elem,.bool x.opn]] _ _;rw [hk];go_enter Tryz.func51,Tryz.ntmps51
 go_upto_region 1 with fail;refine aO (fun wd2 hb1 X => ?_);have hw3:=hb1;clear hb1;have aK:=X.out.e0;go_wp2_with fail;clear aK;((with_reducible refine (HP0.out _).mono ?_);rintro e wd4 ⟨rfl,hb5⟩);replace X:=b1 X hb5;replace hw3:=dT hw3 hb5;clear hb5;have Ic:¬ 9223372036854775807 < (pJ 9 6).length+(Z4 x.opn).length:=by omega
 have akm:¬ 9223372036854775807 < (pJ 9 6).length+(Z4 x.opn).length+(pJ 9 x.ah.length).length:=by omega
 have aK:=X.out.e0;have dU:=X.out.e9;go_wp2_with fail;clear aK dU;((with_reducible refine (aAL x.opn _).mono ?_);rintro e wL ⟨rfl,hb7⟩);replace X:=b1 X hb7;replace hw3:=dT hw3 hb7;clear hb7;have bU:=X.out.e6;go_wp2_with fail;clear bU;((with_reducible refine (alA x.ah.length (by omega) _).mono ?_);rintro e qP ⟨rfl,zU⟩);replace X:=b1 X zU;replace hw3:=dT hw3 zU;clear zU;go_upto_region 24 with fail;rw [qO,qO];obtain ⟨p0,auv⟩ : ∃ p,p=pJ 9 6 ++ Z4 x.opn ++ pJ 9 x.ah.length:=⟨_,rfl⟩
 have aHN:p0.length≤40:=by rw [auv];simp only [List.length_append];omega
 rw [← auv];have HPQ:=hiQ auv;have hX0:=X.out;clear auv Ic akm;go_upto_region 25 with fail;go_loopw [3,5] (fun s3 s5 wr => ∃ j:Nat,j≤x.ah.length∧s5 = .int .i64 j∧s3 = .string ⟨(p0 ++ (L.take j).flatten).toArray⟩∧((L.take j).flatten).length≤30*j∧Below w.heap.size w wr∧Has wr w.heap.size 71 #[.int .i64 6,.string ⟨x.name.toArray⟩,.int .i64 x.low,.int .i64 x.high,.int .i64 x.max,.slice C1 x.syms.length l1,.slice C2 x.ah.length l2,.int .i64 x.key,.int .i64 x.elem,.bool x.opn]) (fun _ s5 _ => x.ah.length - (intOf s5).toNat)
 case atStart => exact ⟨0,Nat.zero_le _,rfl,by simp,by simp,hw3,hX0⟩
 case round =>
  clear X hX0;obtain ⟨j,hjl,rfl,rfl,hfl,hb0,X⟩:=hrel;replace X:=hiQ X;by_cases hlt:j < x.ah.length
  ·
   obtain ⟨b6,o6,hC2,hb6,hc6⟩:=HT.out.ah.elem (by omega);obtain ⟨k1,k2,k3,hmc,-⟩:=hc6 j hlt;have hLy:=HLJ.out j _ (List.getElem?_eq_getElem hlt);have hss:=HSM.out _ (List.getElem_mem hlt);have hcd:=HCD.out _ (List.getElem_mem hlt);have hjL:j < L.length:=by have:=YW.out;omega
   rw [List.getElem?_eq_getElem hjL] at hLy;have hnx:=aAM L j hjL;rw [Option.some.inj hLy] at hnx;replace hmc:=aD1 hmc hb0 hb6;generalize x.ah[j]=m at *;obtain ⟨mi,mn,mt,mc,mh,mf⟩:=m;simp only at hss hcd;obtain ⟨a,ha,ha2,hal⟩:=alq hss.1;obtain ⟨d,hd,hd2,hdl⟩:=alq hss.2;obtain ⟨g,hg⟩ : ∃ g,g=LY ⟨mi,mn,mt,mc,mh,mf⟩:=⟨_,rfl⟩
   have hgl:g.length≤30:=by
    exact zKu
   have MB:Hid (∀ W,Calls Tryz.prog 89 #[.agg #[.int .i64 mi,.string ⟨mn.toArray⟩,.int .i64 mt,.bool mc,.bool mh,.int .i64 mf.kind,.bool mf.bool,.int .i64 mf.num,.string ⟨mf.str.toArray⟩,.int .i64 mf.id,k1,k2,k3]] W (an1 g W)):=fun W => by
    exact zKw
   rw [← hg] at hnx;have HNX:=hiQ hnx;obtain ⟨pr,hpr⟩ : ∃ p,p=p0 ++ (L.take j).flatten:=⟨_,rfl⟩
   have aHO:pr.length≤40+30*j:=by rw [hpr,List.length_append];omega
   have azL:((L.take (j+1)).flatten).length≤30*(j+1):=by rw [hnx,List.length_append];omega
   have HFL:=hiQ azL;rw [← hpr];have HPR:=hiQ hpr;have Ic:¬ 9223372036854775807 < pr.length+g.length:=by omega
   have hi1:(j:Int) < x.ah.length:=by omega
   have hd0:decide ((j:Int) < 0)=false:=by simp
   have hd1:decide (x.ah.length≤j)=false:=by simpa using hlt
   obtain ⟨a0,a1,a2,a3,a4,a5,a6,a7,a8,a9,a10,a11,a12⟩:=hmc;clear hc6 hLy hss hcd hnx hpr azL ha ha2 hd hd2 hfl hg;subst hC2;have bU:=X.out.e6;go_wp2_with fail;clear a0 a1 a2 a3 a4 a5 a6 a7 a8 a9 a10 a11 a12 bU;((with_reducible refine (MB.out _).mono ?_);rintro e kL ⟨rfl,iR⟩);replace X:=b1 X iR;replace hb0:=dT hb0 iR;clear iR;exact zKr
  exact zKt
theorem aGh (x:ay) (vs vm:Value) (hk:1≤x.kind∧x.kind≤9) (ho:aow x) (hcd:∀ m ∈ x.ah,¬ (m.akb=true∧m.eG=true)) (w:World) (ht:jc w w.heap.size x vs vm):Calls Tryz.prog 51 #[dA x vs vm] w (an1 (kS x) w):=by
 have hcs:x.kind=1∨x.kind=2∨x.kind=3∨x.kind=4∨x.kind=5∨x.kind=6∨x.kind=7∨x.kind=8∨x.kind=9:=by omega
 rcases hcs with h | h | h | h | h | h | h | h | h
 · exact aIS x vs vm h w ht
 · exact aIT x vs vm h w ht
 · exact aIU x vs vm h ho w ht
 · exact aIP x vs vm h ho w ht
 · exact aIQ x vs vm h ho hcd w ht
 · exact aIR x vs vm h ho hcd w ht
 · exact aIV x vs vm h ho w ht
 · exact aIW x vs vm h ho w ht
 exact aIX x vs vm h ho w ht
end Go.Proofs.YtlamhkffnlgofaaGreatDoor
