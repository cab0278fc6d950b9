/- What sheaveref07.Equal and the two Same answer of one schema laid twice. No condition. -/
import Derived.Test.YtlamhkffnlgofaaGreatDoorGrt
import Derived.Test.YtlamhkffnlgofaaGreatDoorHAP
set_option maxHeartbeats 1600000
set_option maxRecDepth 100000
namespace Go.Proofs.YtlamhkffnlgofaaGreatDoor
open Go.ChangeShapes Go.WideShapes Go.ChangeAt Go.RowKit
theorem aCE (x:ay):oN x x=true:=by unfold oN;simp
theorem aBX (ts:List ay) (A E:Option Addr) (c c':Nat) (w:World) (hn:ts.length≤1000) (ht:aU w w.heap.size (.slice A ts.length c) ts) (hu:aU w w.heap.size (.slice E ts.length c') ts) :
  Calls Tryz.prog 99 #[.agg #[.slice A ts.length c],.agg #[.slice E ts.length c']] w (RTq w (.bool true)):=by
 have HT:=hiQ ht;have HU:=hiQ hu;clear ht hu;go_enter Tryz.func99,Tryz.ntmps99
 go_upto_region 1 with fail;refine jg (fun wd2 hb1 SA SB => ?_);have hw3:=hb1;clear hb1;have ajw:=SA.out.e0;have ajW:=SB.out.e0;go_upto_region 4 with fail;clear ajw ajW;have hA0:=SA.out;have hB0:=SB.out;have hW0:=hw3;go_loopw [5] (fun s5 wr => ∃ i:Nat,i≤ts.length∧s5 = .int .i64 i∧Has wr w.heap.size 25 #[.slice A ts.length c]∧Has wr (w.heap.size+1) 25 #[.slice E ts.length c']∧Below w.heap.size w wr) (fun s5 _ => ts.length - (intOf s5).toNat)
 case atStart => exact ⟨0,by omega,rfl,hA0,hB0,hW0⟩
 case round =>
  clear SA SB hA0 hB0 hW0;obtain ⟨i,hi,rfl,SA,SB,hb0⟩:=hrel;replace SA:=hiQ SA;replace SB:=hiQ SB;have ajw:=SA.out.e0;by_cases hlt:i < ts.length
  ·
   have hi1:(i:Int) < ts.length:=by omega
   have hd0:decide ((i:Int) < 0)=false:=by simp
   have hd1:decide (ts.length≤i)=false:=by simpa using hlt
   obtain ⟨x,hxe⟩ : ∃ x,x=ts[i]:=⟨_,rfl⟩
   obtain ⟨bx,ox,hAe,hbb,hel⟩:=HT.out.elem (by omega);obtain ⟨vs,vm,hcs,hxa⟩:=hel i hlt;replace hcs:=hcs.below hb0 hbb;replace hxa:=hxa.keep (w':=wr) (fun p hp => (hb0).cell hp) (Nat.le_refl _);rw [← hxe] at hcs hxa;obtain ⟨C1,l1,C2,l2,rfl,rfl,-,-⟩:=hxa.forms;have KX:=hiQ (Kept.rd (P:=fun w B => jc w B x (.slice C1 x.syms.length l1) (.slice C2 x.ah.length l2)∧NI w bx (ox+i*10) x (.slice C1 x.syms.length l1) (.slice C2 x.ah.length l2)) ⟨hxa,hcs⟩ (hb0).size (fun _ hk => ⟨hxa.keep hk (Nat.le_refl _),hcs.on hbb hk⟩));clear hel hxa hcs hbb;subst hAe;obtain ⟨ba2,oa2,hAe,hbb,hel⟩:=HU.out.elem (by omega);obtain ⟨vs,vm,hcs,hxa⟩:=hel i hlt;replace hcs:=hcs.below hb0 hbb;replace hxa:=hxa.keep (w':=wr) (fun p hp => (hb0).cell hp) (Nat.le_refl _);rw [← hxe] at hcs hxa;obtain ⟨D1,m1,D2,m2,rfl,rfl,-,-⟩:=hxa.forms;have KY:=hiQ (Kept.rd (P:=fun w B => jc w B x (.slice D1 x.syms.length m1) (.slice D2 x.ah.length m2)∧NI w ba2 (oa2+i*10) x (.slice D1 x.syms.length m1) (.slice D2 x.ah.length m2)) ⟨hxa,hcs⟩ (hb0).size (fun _ hk => ⟨hxa.keep hk (Nat.le_refl _),hcs.on hbb hk⟩));clear hel hxa hcs hbb;subst hAe;clear hxe;have HSX:=hiQ (aCE x);go_upto_region 6 with fail;clear ajw;have ajw:=SA.out.e0;have ajW:=SB.out.e0;refine wp_region_held_drew (S:=(fun w' => w'.cell? ⟨w.heap.size,0,none⟩=some (.slice (some ⟨bx,ox,none⟩) ts.length c)∧w'.cell? ⟨w.heap.size+1,0,none⟩=some (.slice (some ⟨ba2,oa2,none⟩) ts.length c')∧(aoj w' bx (ox+i*10) x (.slice C1 x.syms.length l1) (.slice C2 x.ah.length l2))∧(aoj w' ba2 (oa2+i*10) x (.slice D1 x.syms.length m1) (.slice D2 x.ah.length m2)))) (by kernel_rfl) ⟨ajw,ajW,(KX.out.now.2),(KY.out.now.2)⟩ (fun hHeld => ?_)
   clear ajw ajW;have hb4:Below wr.heap.size wr (wr.drew):=(Below.refl _ _).drew;obtain ⟨SA,SB,KX,KY⟩:=b4 SA SB KX KY hb4;replace hb0:=dT hb0 hb4;clear hb4;generalize wr.drew=fG at *;refine tk 0 ?_;refine tk 1 ?_;refine tk 2 ?_;refine tk 3 ?_;refine tk 4 ?_;refine tk 5 ?_;refine tk 6 ?_;refine tk 7 ?_;refine tk 8 ?_;refine tk 9 ?_;refine iE 10 fun K hK => ?_;go_simp;((with_reducible refine (acR x x _ _ _ _ _ (KX.out.now.1.up KX.out.le) (KY.out.now.1.up KY.out.le)).mono ?_);rintro e wL ⟨rfl,hb7⟩);obtain ⟨SA,SB,KX,KY⟩:=b4 SA SB KX KY hb7;replace hb0:=dT hb0 hb7;clear hb7;rw [HSX.out];(try clear hHeld);refine hK.out _ _ (⟨SA.out.cell 0,⟨SB.out.cell 0,⟨(KX.out.now.2),(KY.out.now.2)⟩⟩⟩) (fun hHeld => ?_);clear hK K;refine tk 11 ?_;refine wpAnyH_done (by kernel_rfl) ?_ _;(try clear hHeld);clear KX KY;go_wp2_with fail;go_roundw
   case rel => exact ⟨i+1,by omega,by go_num,SA.out,SB.out,hb0⟩
   case measure => simp [intOf];omega
  obtain rfl:i=ts.length:=by omega
  go_wp2_with fail;go_ret;exact ⟨rfl,hb0⟩
theorem aBT (ts:List ay) (A E:Option Addr) (c c':Nat) (t:Int) (w:World) (hn:ts.length≤1000) (ht:aU w w.heap.size (.slice A ts.length c) ts) (hu:aU w w.heap.size (.slice E ts.length c') ts) :
  Calls Tryz.prog 70 #[.agg #[.slice A ts.length c,.int .i64 t],.agg #[.slice E ts.length c',.int .i64 t]] w (RTq w (.bool true)):=by
 have HT:=hiQ ht;have HU:=hiQ hu;clear ht hu;go_enter Tryz.func70,Tryz.ntmps70
 go_upto_region 1 with fail;refine jg (fun wd2 hb1 X Y => ?_);have hw3:=hb1;clear hb1;obtain ⟨aK,bJ⟩:=X.out.c2;obtain ⟨kT,kU⟩:=Y.out.c2;go_wp2_with fail;clear aK bJ kT kU;((with_reducible refine (aBX ts A E c c' _ hn (HT.out.on hw3) (HU.out.on hw3)).mono ?_);rintro e wd4 ⟨rfl,hb5⟩);obtain ⟨X,Y⟩:=b2 X Y hb5;exact zIg
theorem aBU (ts:List ay) (A E:Option Addr) (c c':Nat) (t:Int) (w:World) (hn:ts.length≤1000) (ht:aU w w.heap.size (.slice A ts.length c) ts) (hu:aU w w.heap.size (.slice E ts.length c') ts) :
  Calls Tryz.prog 30 #[.agg #[.slice A ts.length c,.int .i64 t],.agg #[.slice E ts.length c',.int .i64 t]] w (RTq w (.bool true)):=by
 have HT:=hiQ ht;have HU:=hiQ hu;clear ht hu;go_enter Tryz.func30,Tryz.ntmps30
 go_upto_region 1 with fail;refine jg (fun wd2 hb1 X Y => ?_);have hw3:=hb1;clear hb1;obtain ⟨aK,bJ⟩:=X.out.c2;obtain ⟨kT,kU⟩:=Y.out.c2;go_wp2_with fail;clear aK bJ kT kU;((with_reducible refine (aBT ts A E c c' t _ hn (HT.out.on hw3) (HU.out.on hw3)).mono ?_);rintro e wd4 ⟨rfl,hb5⟩);obtain ⟨X,Y⟩:=b2 X Y hb5;exact zIg
end Go.Proofs.YtlamhkffnlgofaaGreatDoor
