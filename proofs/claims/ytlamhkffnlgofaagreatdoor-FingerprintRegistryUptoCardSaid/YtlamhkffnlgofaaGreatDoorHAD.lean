/- What bare and proper compute. What each and its closure compute, given what fits computes for the elements. What free and id compute. Which values fit a type: a plain function with fuel. No condition. -/
import Derived.Test.YtlamhkffnlgofaaGreatDoorHAC
set_option maxHeartbeats 400000
set_option maxRecDepth 100000
namespace Go.Proofs.YtlamhkffnlgofaaGreatDoor
open Go.ChangeShapes Go.WideShapes Go.ChangeAt Go.RowKit
def aA (x:Val):Bool :=
 (decide (x.kind=1) || !x.bool) && ((decide (x.kind=2) || decide (x.num=0)) && ((decide (x.kind=3) || decide (x.str = [])) && ((decide (x.kind=4∨x.kind=6) || decide (x.id=0)) &&
  ((decide (x.kind=8) || decide (x.keys.length=0)) && ((decide (5≤x.kind∧x.kind≤9) || decide (x.items.length=0)) && (decide (x.kind=5∨x.kind=6) || decide (x.rest.length=0)))))))
theorem ayQ (x:Val) (A1 A2 A3:Option Addr) (n1 n2 n3:Nat) (w:World) (hk:x.kind=1) :
  Calls Tryz.prog 162 #[aS x (.slice A1 x.keys.length n1) (.slice A2 x.items.length n2) (.slice A3 x.rest.length n3)] w (RTq w (.agg #[.int .i64 1,.bool x.bool,.int .i64 0,.string ⟨([] : List UInt8).toArray⟩,.int .i64 0,.slice none 0 0,.slice none 0 0,.slice none 0 0])):=by
 have h3b:=KH w;simp only [aS,hk];go_enter Tryz.func162,Tryz.ntmps162
 go_wp2_with fail
 skip
 refine bodyPost_ret (v:=.agg #[.int .i64 1,.bool x.bool,.int .i64 0,.string ⟨([] : List UInt8).toArray⟩,.int .i64 0,.slice none 0 0,.slice none 0 0,.slice none 0 0]) (by simp [results,Tryz.results162,go_sem]) rfl ⟨rfl,?_⟩
 first | exact h3b _ _ _ | exact (h3b _ _ _).drew
theorem ayR (x:Val) (A1 A2 A3:Option Addr) (n1 n2 n3:Nat) (w:World) (hk:x.kind=2) :
  Calls Tryz.prog 162 #[aS x (.slice A1 x.keys.length n1) (.slice A2 x.items.length n2) (.slice A3 x.rest.length n3)] w (RTq w (.agg #[.int .i64 2,.bool false,.int .i64 x.num,.string ⟨([] : List UInt8).toArray⟩,.int .i64 0,.slice none 0 0,.slice none 0 0,.slice none 0 0])):=by
 have h3b:=KH w;simp only [aS,hk];go_enter Tryz.func162,Tryz.ntmps162
 go_wp2_with fail
 skip
 refine bodyPost_ret (v:=.agg #[.int .i64 2,.bool false,.int .i64 x.num,.string ⟨([] : List UInt8).toArray⟩,.int .i64 0,.slice none 0 0,.slice none 0 0,.slice none 0 0]) (by simp [results,Tryz.results162,go_sem]) rfl ⟨rfl,?_⟩
 first | exact h3b _ _ _ | exact (h3b _ _ _).drew
theorem ayS (x:Val) (A1 A2 A3:Option Addr) (n1 n2 n3:Nat) (w:World) (hk:x.kind=3) :
  Calls Tryz.prog 162 #[aS x (.slice A1 x.keys.length n1) (.slice A2 x.items.length n2) (.slice A3 x.rest.length n3)] w (RTq w (.agg #[.int .i64 3,.bool false,.int .i64 0,.string ⟨(x.str:List UInt8).toArray⟩,.int .i64 0,.slice none 0 0,.slice none 0 0,.slice none 0 0])):=by
 have h3b:=KH w;simp only [aS,hk];go_enter Tryz.func162,Tryz.ntmps162
 go_wp2_with fail
 skip
 refine bodyPost_ret (v:=.agg #[.int .i64 3,.bool false,.int .i64 0,.string ⟨(x.str:List UInt8).toArray⟩,.int .i64 0,.slice none 0 0,.slice none 0 0,.slice none 0 0]) (by simp [results,Tryz.results162,go_sem]) rfl ⟨rfl,?_⟩
 first | exact h3b _ _ _ | exact (h3b _ _ _).drew
theorem ayT (x:Val) (A1 A2 A3:Option Addr) (n1 n2 n3:Nat) (w:World) (hk:x.kind=4) :
  Calls Tryz.prog 162 #[aS x (.slice A1 x.keys.length n1) (.slice A2 x.items.length n2) (.slice A3 x.rest.length n3)] w (RTq w (.agg #[.int .i64 4,.bool false,.int .i64 0,.string ⟨([] : List UInt8).toArray⟩,.int .i64 x.id,.slice none 0 0,.slice none 0 0,.slice none 0 0])):=by
 have h3b:=KH w;simp only [aS,hk];go_enter Tryz.func162,Tryz.ntmps162
 go_wp2_with fail
 skip
 refine bodyPost_ret (v:=.agg #[.int .i64 4,.bool false,.int .i64 0,.string ⟨([] : List UInt8).toArray⟩,.int .i64 x.id,.slice none 0 0,.slice none 0 0,.slice none 0 0]) (by simp [results,Tryz.results162,go_sem]) rfl ⟨rfl,?_⟩
 first | exact h3b _ _ _ | exact (h3b _ _ _).drew
theorem ayU (x:Val) (A1 A2 A3:Option Addr) (n1 n2 n3:Nat) (w:World) (hk:x.kind=5) :
  Calls Tryz.prog 162 #[aS x (.slice A1 x.keys.length n1) (.slice A2 x.items.length n2) (.slice A3 x.rest.length n3)] w (RTq w (.agg #[.int .i64 5,.bool false,.int .i64 0,.string ⟨([] : List UInt8).toArray⟩,.int .i64 0,.slice none 0 0,.slice A2 x.items.length n2,.slice A3 x.rest.length n3])):=by
 have h3b:=KH w;simp only [aS,hk];go_enter Tryz.func162,Tryz.ntmps162
 go_wp2_with fail
 (go_region;go_wp2_with fail)
 refine bodyPost_ret (v:=.agg #[.int .i64 5,.bool false,.int .i64 0,.string ⟨([] : List UInt8).toArray⟩,.int .i64 0,.slice none 0 0,.slice A2 x.items.length n2,.slice A3 x.rest.length n3]) (by simp [results,Tryz.results162,go_sem]) rfl ⟨rfl,?_⟩
 first | exact h3b _ _ _ | exact (h3b _ _ _).drew
theorem ayV (x:Val) (A1 A2 A3:Option Addr) (n1 n2 n3:Nat) (w:World) (hk:x.kind=6) :
  Calls Tryz.prog 162 #[aS x (.slice A1 x.keys.length n1) (.slice A2 x.items.length n2) (.slice A3 x.rest.length n3)] w (RTq w (.agg #[.int .i64 6,.bool false,.int .i64 0,.string ⟨([] : List UInt8).toArray⟩,.int .i64 x.id,.slice none 0 0,.slice A2 x.items.length n2,.slice A3 x.rest.length n3])):=by
 have h3b:=KH w;simp only [aS,hk];go_enter Tryz.func162,Tryz.ntmps162
 go_wp2_with fail
 (go_region;go_wp2_with fail)
 refine bodyPost_ret (v:=.agg #[.int .i64 6,.bool false,.int .i64 0,.string ⟨([] : List UInt8).toArray⟩,.int .i64 x.id,.slice none 0 0,.slice A2 x.items.length n2,.slice A3 x.rest.length n3]) (by simp [results,Tryz.results162,go_sem]) rfl ⟨rfl,?_⟩
 first | exact h3b _ _ _ | exact (h3b _ _ _).drew
theorem ayW (x:Val) (A1 A2 A3:Option Addr) (n1 n2 n3:Nat) (w:World) (hk:x.kind=7) :
  Calls Tryz.prog 162 #[aS x (.slice A1 x.keys.length n1) (.slice A2 x.items.length n2) (.slice A3 x.rest.length n3)] w (RTq w (.agg #[.int .i64 7,.bool false,.int .i64 0,.string ⟨([] : List UInt8).toArray⟩,.int .i64 0,.slice none 0 0,.slice A2 x.items.length n2,.slice none 0 0])):=by
 have h3b:=KH w;simp only [aS,hk];go_enter Tryz.func162,Tryz.ntmps162
 go_wp2_with fail
 skip
 refine bodyPost_ret (v:=.agg #[.int .i64 7,.bool false,.int .i64 0,.string ⟨([] : List UInt8).toArray⟩,.int .i64 0,.slice none 0 0,.slice A2 x.items.length n2,.slice none 0 0]) (by simp [results,Tryz.results162,go_sem]) rfl ⟨rfl,?_⟩
 first | exact h3b _ _ _ | exact (h3b _ _ _).drew
theorem ayX (x:Val) (A1 A2 A3:Option Addr) (n1 n2 n3:Nat) (w:World) (hk:x.kind=8) :
  Calls Tryz.prog 162 #[aS x (.slice A1 x.keys.length n1) (.slice A2 x.items.length n2) (.slice A3 x.rest.length n3)] w (RTq w (.agg #[.int .i64 8,.bool false,.int .i64 0,.string ⟨([] : List UInt8).toArray⟩,.int .i64 0,.slice A1 x.keys.length n1,.slice A2 x.items.length n2,.slice none 0 0])):=by
 have h3b:=KH w;simp only [aS,hk];go_enter Tryz.func162,Tryz.ntmps162
 go_wp2_with fail
 (go_region;go_wp2_with fail)
 refine bodyPost_ret (v:=.agg #[.int .i64 8,.bool false,.int .i64 0,.string ⟨([] : List UInt8).toArray⟩,.int .i64 0,.slice A1 x.keys.length n1,.slice A2 x.items.length n2,.slice none 0 0]) (by simp [results,Tryz.results162,go_sem]) rfl ⟨rfl,?_⟩
 first | exact h3b _ _ _ | exact (h3b _ _ _).drew
theorem ayY (x:Val) (A1 A2 A3:Option Addr) (n1 n2 n3:Nat) (w:World) (hk:x.kind=9) :
  Calls Tryz.prog 162 #[aS x (.slice A1 x.keys.length n1) (.slice A2 x.items.length n2) (.slice A3 x.rest.length n3)] w (RTq w (.agg #[.int .i64 9,.bool false,.int .i64 0,.string ⟨([] : List UInt8).toArray⟩,.int .i64 0,.slice none 0 0,.slice A2 x.items.length n2,.slice none 0 0])):=by
 have h3b:=KH w;simp only [aS,hk];go_enter Tryz.func162,Tryz.ntmps162
 go_wp2_with fail
 skip
 refine bodyPost_ret (v:=.agg #[.int .i64 9,.bool false,.int .i64 0,.string ⟨([] : List UInt8).toArray⟩,.int .i64 0,.slice none 0 0,.slice A2 x.items.length n2,.slice none 0 0]) (by simp [results,Tryz.results162,go_sem]) rfl ⟨rfl,?_⟩
 first | exact h3b _ _ _ | exact (h3b _ _ _).drew
theorem zBl {p:Prop} (h:p:=by
 have HP2:=HP.below hb2 (by simp);have c1:=HP2.cell 1;have c2:=HP2.cell 2;have c3:=HP2.cell 3;have c4:=HP2.cell 4;have c5:=HP2.cell 5;have c6:=HP2.cell 6;have c7:=HP2.cell 7;have hz2:=HP2.here;simp only [qI] at c1 c2 c3 c4 c5 c6 c7;clear HP HP2 hb2 h01 HB;go_wp2_with fail
 all_goals go_ret
 all_goals refine ⟨au ?_,h02⟩
 all_goals rw [← Hpb.out]
 all_goals first | (simp [aA,HK.out, *];done) | (simp [aA,HK.out, *];cases x.rest with | nil => simp | cons a r => (simp;omega))):p:=h
theorem asG (x:Val) (A1 A2 A3:Option Addr) (n1 n2 n3:Nat) (w:World) (hk:x.kind=1) :
  Calls Tryz.prog 129 #[aS x (.slice A1 x.keys.length n1) (.slice A2 x.items.length n2) (.slice A3 x.rest.length n3)] w (RTq w (.bool (aA x))):=by
 have hb:=fun W => ayQ x A1 A2 A3 n1 n2 n3 W hk;have HB:=hiQ hb;have HK:=hiQ hk;have h01:=(Below.refl w.heap.size w).alloc (Nat.le_refl _) (.cells #[.int .i64 1,.bool x.bool,.int .i64 x.num,.string ⟨x.str.toArray⟩,.int .i64 x.id,.slice A1 x.keys.length n1,.slice A2 x.items.length n2,.slice A3 x.rest.length n3] 81);have HP:=Has.made w 81 #[.int .i64 1,.bool x.bool,.int .i64 x.num,.string ⟨x.str.toArray⟩,.int .i64 x.id,.slice A1 x.keys.length n1,.slice A2 x.items.length n2,.slice A3 x.rest.length n3];simp only [aS,hk] at HB ⊢;obtain ⟨pb,hpb⟩ : ∃ pb,aA x=pb:=⟨_,rfl⟩
 rw [hpb];have Hpb:=hiQ hpb;clear hb hk hpb;go_enter Tryz.func129,Tryz.ntmps129
 go_wp2_with fail;refine (HB.out _).mono ?_;rintro e w2 ⟨rfl,hb2⟩;have h02:=(h01.trans (hb2.mono h01.size)).alloc (h01.trans (hb2.mono h01.size)).size (.cells #[.int .i64 1,.bool x.bool,.int .i64 0,.string ⟨([] : List UInt8).toArray⟩,.int .i64 0,.slice none 0 0,.slice none 0 0,.slice none 0 0] 81);exact zBl
theorem asH (x:Val) (A1 A2 A3:Option Addr) (n1 n2 n3:Nat) (w:World) (hk:x.kind=2) :
  Calls Tryz.prog 129 #[aS x (.slice A1 x.keys.length n1) (.slice A2 x.items.length n2) (.slice A3 x.rest.length n3)] w (RTq w (.bool (aA x))):=by
 have hb:=fun W => ayR x A1 A2 A3 n1 n2 n3 W hk;have HB:=hiQ hb;have HK:=hiQ hk;have h01:=(Below.refl w.heap.size w).alloc (Nat.le_refl _) (.cells #[.int .i64 2,.bool x.bool,.int .i64 x.num,.string ⟨x.str.toArray⟩,.int .i64 x.id,.slice A1 x.keys.length n1,.slice A2 x.items.length n2,.slice A3 x.rest.length n3] 81);have HP:=Has.made w 81 #[.int .i64 2,.bool x.bool,.int .i64 x.num,.string ⟨x.str.toArray⟩,.int .i64 x.id,.slice A1 x.keys.length n1,.slice A2 x.items.length n2,.slice A3 x.rest.length n3];simp only [aS,hk] at HB ⊢;obtain ⟨pb,hpb⟩ : ∃ pb,aA x=pb:=⟨_,rfl⟩
 rw [hpb];have Hpb:=hiQ hpb;clear hb hk hpb;go_enter Tryz.func129,Tryz.ntmps129
 go_wp2_with fail;refine (HB.out _).mono ?_;rintro e w2 ⟨rfl,hb2⟩;have h02:=(h01.trans (hb2.mono h01.size)).alloc (h01.trans (hb2.mono h01.size)).size (.cells #[.int .i64 2,.bool false,.int .i64 x.num,.string ⟨([] : List UInt8).toArray⟩,.int .i64 0,.slice none 0 0,.slice none 0 0,.slice none 0 0] 81);exact zBl
theorem asI (x:Val) (A1 A2 A3:Option Addr) (n1 n2 n3:Nat) (w:World) (hk:x.kind=3) :
  Calls Tryz.prog 129 #[aS x (.slice A1 x.keys.length n1) (.slice A2 x.items.length n2) (.slice A3 x.rest.length n3)] w (RTq w (.bool (aA x))):=by
 have hb:=fun W => ayS x A1 A2 A3 n1 n2 n3 W hk;have HB:=hiQ hb;have HK:=hiQ hk;have h01:=(Below.refl w.heap.size w).alloc (Nat.le_refl _) (.cells #[.int .i64 3,.bool x.bool,.int .i64 x.num,.string ⟨x.str.toArray⟩,.int .i64 x.id,.slice A1 x.keys.length n1,.slice A2 x.items.length n2,.slice A3 x.rest.length n3] 81);have HP:=Has.made w 81 #[.int .i64 3,.bool x.bool,.int .i64 x.num,.string ⟨x.str.toArray⟩,.int .i64 x.id,.slice A1 x.keys.length n1,.slice A2 x.items.length n2,.slice A3 x.rest.length n3];simp only [aS,hk] at HB ⊢;obtain ⟨pb,hpb⟩ : ∃ pb,aA x=pb:=⟨_,rfl⟩
 rw [hpb];have Hpb:=hiQ hpb;clear hb hk hpb;go_enter Tryz.func129,Tryz.ntmps129
 go_wp2_with fail;refine (HB.out _).mono ?_;rintro e w2 ⟨rfl,hb2⟩;have h02:=(h01.trans (hb2.mono h01.size)).alloc (h01.trans (hb2.mono h01.size)).size (.cells #[.int .i64 3,.bool false,.int .i64 0,.string ⟨(x.str:List UInt8).toArray⟩,.int .i64 0,.slice none 0 0,.slice none 0 0,.slice none 0 0] 81);exact zBl
theorem asJ (x:Val) (A1 A2 A3:Option Addr) (n1 n2 n3:Nat) (w:World) (hk:x.kind=4) :
  Calls Tryz.prog 129 #[aS x (.slice A1 x.keys.length n1) (.slice A2 x.items.length n2) (.slice A3 x.rest.length n3)] w (RTq w (.bool (aA x))):=by
 have hb:=fun W => ayT x A1 A2 A3 n1 n2 n3 W hk;have HB:=hiQ hb;have HK:=hiQ hk;have h01:=(Below.refl w.heap.size w).alloc (Nat.le_refl _) (.cells #[.int .i64 4,.bool x.bool,.int .i64 x.num,.string ⟨x.str.toArray⟩,.int .i64 x.id,.slice A1 x.keys.length n1,.slice A2 x.items.length n2,.slice A3 x.rest.length n3] 81);have HP:=Has.made w 81 #[.int .i64 4,.bool x.bool,.int .i64 x.num,.string ⟨x.str.toArray⟩,.int .i64 x.id,.slice A1 x.keys.length n1,.slice A2 x.items.length n2,.slice A3 x.rest.length n3];simp only [aS,hk] at HB ⊢;obtain ⟨pb,hpb⟩ : ∃ pb,aA x=pb:=⟨_,rfl⟩
 rw [hpb];have Hpb:=hiQ hpb;clear hb hk hpb;go_enter Tryz.func129,Tryz.ntmps129
 go_wp2_with fail;refine (HB.out _).mono ?_;rintro e w2 ⟨rfl,hb2⟩;have h02:=(h01.trans (hb2.mono h01.size)).alloc (h01.trans (hb2.mono h01.size)).size (.cells #[.int .i64 4,.bool false,.int .i64 0,.string ⟨([] : List UInt8).toArray⟩,.int .i64 x.id,.slice none 0 0,.slice none 0 0,.slice none 0 0] 81);exact zBl
theorem aq1 (x:Val) (A1 A2 A3:Option Addr) (n1 n2 n3:Nat) (w:World) (hk:x.kind=5) :
  Calls Tryz.prog 129 #[aS x (.slice A1 x.keys.length n1) (.slice A2 x.items.length n2) (.slice A3 x.rest.length n3)] w (RTq w (.bool (aA x))):=by
 have hb:=fun W => ayU x A1 A2 A3 n1 n2 n3 W hk;have HB:=hiQ hb;have HK:=hiQ hk;have h01:=(Below.refl w.heap.size w).alloc (Nat.le_refl _) (.cells #[.int .i64 5,.bool x.bool,.int .i64 x.num,.string ⟨x.str.toArray⟩,.int .i64 x.id,.slice A1 x.keys.length n1,.slice A2 x.items.length n2,.slice A3 x.rest.length n3] 81);have HP:=Has.made w 81 #[.int .i64 5,.bool x.bool,.int .i64 x.num,.string ⟨x.str.toArray⟩,.int .i64 x.id,.slice A1 x.keys.length n1,.slice A2 x.items.length n2,.slice A3 x.rest.length n3];simp only [aS,hk] at HB ⊢;obtain ⟨pb,hpb⟩ : ∃ pb,aA x=pb:=⟨_,rfl⟩
 rw [hpb];have Hpb:=hiQ hpb;clear hb hk hpb;go_enter Tryz.func129,Tryz.ntmps129
 go_wp2_with fail;refine (HB.out _).mono ?_;rintro e w2 ⟨rfl,hb2⟩;have h02:=(h01.trans (hb2.mono h01.size)).alloc (h01.trans (hb2.mono h01.size)).size (.cells #[.int .i64 5,.bool false,.int .i64 0,.string ⟨([] : List UInt8).toArray⟩,.int .i64 0,.slice none 0 0,.slice A2 x.items.length n2,.slice A3 x.rest.length n3] 81);exact zBl
theorem asM (x:Val) (A1 A2 A3:Option Addr) (n1 n2 n3:Nat) (w:World) (hk:x.kind=6) :
  Calls Tryz.prog 129 #[aS x (.slice A1 x.keys.length n1) (.slice A2 x.items.length n2) (.slice A3 x.rest.length n3)] w (RTq w (.bool (aA x))):=by
 have hb:=fun W => ayV x A1 A2 A3 n1 n2 n3 W hk;have HB:=hiQ hb;have HK:=hiQ hk;have h01:=(Below.refl w.heap.size w).alloc (Nat.le_refl _) (.cells #[.int .i64 6,.bool x.bool,.int .i64 x.num,.string ⟨x.str.toArray⟩,.int .i64 x.id,.slice A1 x.keys.length n1,.slice A2 x.items.length n2,.slice A3 x.rest.length n3] 81);have HP:=Has.made w 81 #[.int .i64 6,.bool x.bool,.int .i64 x.num,.string ⟨x.str.toArray⟩,.int .i64 x.id,.slice A1 x.keys.length n1,.slice A2 x.items.length n2,.slice A3 x.rest.length n3];simp only [aS,hk] at HB ⊢;obtain ⟨pb,hpb⟩ : ∃ pb,aA x=pb:=⟨_,rfl⟩
 rw [hpb];have Hpb:=hiQ hpb;clear hb hk hpb;go_enter Tryz.func129,Tryz.ntmps129
 go_wp2_with fail;refine (HB.out _).mono ?_;rintro e w2 ⟨rfl,hb2⟩;have h02:=(h01.trans (hb2.mono h01.size)).alloc (h01.trans (hb2.mono h01.size)).size (.cells #[.int .i64 6,.bool false,.int .i64 0,.string ⟨([] : List UInt8).toArray⟩,.int .i64 x.id,.slice none 0 0,.slice A2 x.items.length n2,.slice A3 x.rest.length n3] 81);exact zBl
theorem asK (x:Val) (A1 A2 A3:Option Addr) (n1 n2 n3:Nat) (w:World) (hk:x.kind=7) :
  Calls Tryz.prog 129 #[aS x (.slice A1 x.keys.length n1) (.slice A2 x.items.length n2) (.slice A3 x.rest.length n3)] w (RTq w (.bool (aA x))):=by
 have hb:=fun W => ayW x A1 A2 A3 n1 n2 n3 W hk;have HB:=hiQ hb;have HK:=hiQ hk;have h01:=(Below.refl w.heap.size w).alloc (Nat.le_refl _) (.cells #[.int .i64 7,.bool x.bool,.int .i64 x.num,.string ⟨x.str.toArray⟩,.int .i64 x.id,.slice A1 x.keys.length n1,.slice A2 x.items.length n2,.slice A3 x.rest.length n3] 81);have HP:=Has.made w 81 #[.int .i64 7,.bool x.bool,.int .i64 x.num,.string ⟨x.str.toArray⟩,.int .i64 x.id,.slice A1 x.keys.length n1,.slice A2 x.items.length n2,.slice A3 x.rest.length n3];simp only [aS,hk] at HB ⊢;obtain ⟨pb,hpb⟩ : ∃ pb,aA x=pb:=⟨_,rfl⟩
 rw [hpb];have Hpb:=hiQ hpb;clear hb hk hpb;go_enter Tryz.func129,Tryz.ntmps129
 go_wp2_with fail;refine (HB.out _).mono ?_;rintro e w2 ⟨rfl,hb2⟩;have h02:=(h01.trans (hb2.mono h01.size)).alloc (h01.trans (hb2.mono h01.size)).size (.cells #[.int .i64 7,.bool false,.int .i64 0,.string ⟨([] : List UInt8).toArray⟩,.int .i64 0,.slice none 0 0,.slice A2 x.items.length n2,.slice none 0 0] 81);exact zBl
theorem asN (x:Val) (A1 A2 A3:Option Addr) (n1 n2 n3:Nat) (w:World) (hk:x.kind=8) :
  Calls Tryz.prog 129 #[aS x (.slice A1 x.keys.length n1) (.slice A2 x.items.length n2) (.slice A3 x.rest.length n3)] w (RTq w (.bool (aA x))):=by
 have hb:=fun W => ayX x A1 A2 A3 n1 n2 n3 W hk;have HB:=hiQ hb;have HK:=hiQ hk;have h01:=(Below.refl w.heap.size w).alloc (Nat.le_refl _) (.cells #[.int .i64 8,.bool x.bool,.int .i64 x.num,.string ⟨x.str.toArray⟩,.int .i64 x.id,.slice A1 x.keys.length n1,.slice A2 x.items.length n2,.slice A3 x.rest.length n3] 81);have HP:=Has.made w 81 #[.int .i64 8,.bool x.bool,.int .i64 x.num,.string ⟨x.str.toArray⟩,.int .i64 x.id,.slice A1 x.keys.length n1,.slice A2 x.items.length n2,.slice A3 x.rest.length n3];simp only [aS,hk] at HB ⊢;obtain ⟨pb,hpb⟩ : ∃ pb,aA x=pb:=⟨_,rfl⟩
 rw [hpb];have Hpb:=hiQ hpb;clear hb hk hpb;go_enter Tryz.func129,Tryz.ntmps129
 go_wp2_with fail;refine (HB.out _).mono ?_;rintro e w2 ⟨rfl,hb2⟩;have h02:=(h01.trans (hb2.mono h01.size)).alloc (h01.trans (hb2.mono h01.size)).size (.cells #[.int .i64 8,.bool false,.int .i64 0,.string ⟨([] : List UInt8).toArray⟩,.int .i64 0,.slice A1 x.keys.length n1,.slice A2 x.items.length n2,.slice none 0 0] 81);exact zBl
theorem asL (x:Val) (A1 A2 A3:Option Addr) (n1 n2 n3:Nat) (w:World) (hk:x.kind=9) :
  Calls Tryz.prog 129 #[aS x (.slice A1 x.keys.length n1) (.slice A2 x.items.length n2) (.slice A3 x.rest.length n3)] w (RTq w (.bool (aA x))):=by
 have hb:=fun W => ayY x A1 A2 A3 n1 n2 n3 W hk;have HB:=hiQ hb;have HK:=hiQ hk;have h01:=(Below.refl w.heap.size w).alloc (Nat.le_refl _) (.cells #[.int .i64 9,.bool x.bool,.int .i64 x.num,.string ⟨x.str.toArray⟩,.int .i64 x.id,.slice A1 x.keys.length n1,.slice A2 x.items.length n2,.slice A3 x.rest.length n3] 81);have HP:=Has.made w 81 #[.int .i64 9,.bool x.bool,.int .i64 x.num,.string ⟨x.str.toArray⟩,.int .i64 x.id,.slice A1 x.keys.length n1,.slice A2 x.items.length n2,.slice A3 x.rest.length n3];simp only [aS,hk] at HB ⊢;obtain ⟨pb,hpb⟩ : ∃ pb,aA x=pb:=⟨_,rfl⟩
 rw [hpb];have Hpb:=hiQ hpb;clear hb hk hpb;go_enter Tryz.func129,Tryz.ntmps129
 go_wp2_with fail;refine (HB.out _).mono ?_;rintro e w2 ⟨rfl,hb2⟩;have h02:=(h01.trans (hb2.mono h01.size)).alloc (h01.trans (hb2.mono h01.size)).size (.cells #[.int .i64 9,.bool false,.int .i64 0,.string ⟨([] : List UInt8).toArray⟩,.int .i64 0,.slice none 0 0,.slice A2 x.items.length n2,.slice none 0 0] 81);exact zBl
def aqK (g:Val→Bool):List Val→Nat→Option Nat
 | [],_ => none
 | x :: r,k => if g x then aqK g r (k+1) else some k
theorem aAe (g:Val→Bool):∀ (l:List Val) (k:Nat),(aqK g l k).isSome = !l.all g:=by
 intro l
 induction l with
 | nil => intro k;simp [aqK]
 | cons x r ih =>
  intro k;rw [aqK];cases h:g x with
  | true => simp [ih,h]
  | false => simp [h]
def zL (F:FuncId) (ts:List ay) (vs:Value) (t:Int) (pl:Bool) (g:Val→Bool) (l:List Val):Prop :=
 ∀ (y:Val) (vk vi vr:Value) (W:World),y ∈ l→ValAt W W.heap.size y vk vi vr→aU W W.heap.size vs ts→Calls Tryz.prog F #[.agg #[vs],.int .i64 t,aS y vk vi vr,.bool pl] W fun e w' => e = .returned (.bool (g y))∧Below W.heap.size W w'
theorem ayZ (ts:List ay) (A:Option Addr) (c:Nat) (t:Int) (pl:Bool) (g:Val→Bool) (l:List Val) (y:Val) (vk vi vr:Value) (p4 p5 p7:Nat) (w:World) (hf:zL 107 ts (.slice A ts.length c) t pl g l)
  (hy:y ∈ l) (hv:ValAt w w.heap.size y vk vi vr) (ht:aU w w.heap.size (.slice A ts.length c) ts) (h4:w.cell? ⟨p4,0,none⟩=some (.slice A ts.length c)) (h5:w.cell? ⟨p5,0,none⟩=some (.int .i64 t)) (h7:w.cell? ⟨p7,0,none⟩=some (.bool pl))
  (l4:p4 < w.heap.size) (l5:p5 < w.heap.size) (l7:p7 < w.heap.size) :
  Calls Tryz.prog 166 #[aS y vk vi vr,.pointer (some ⟨p4,0,none⟩),.pointer (some ⟨p5,0,none⟩),.pointer (some ⟨p7,0,none⟩)] w (RTq w (.bool (!g y))):=by
 obtain ⟨A1,n1,A2,n2,A3,n3,rfl,rfl,rfl,-,-,-⟩:=hv.forms;have rV:=fun (o1:Obj) => (Below.refl w.heap.size w).alloc (Nat.le_refl _) o1;have HF:=hiQ hf;have HV:=hiQ hv;have HT:=hiQ ht;have HY:=hiQ hy;clear hf hv ht hy;go_enter Tryz.func166,Tryz.ntmps166
 go_wp2_with fail;refine (HF.out y _ _ _ _ HY.out (HV.out.on (rV _)) (HT.out.on (rV _))).mono ?_;rintro e w2 ⟨rfl,hb2⟩;go_wp2_with fail;go_ret;exact ⟨rfl,(rV _).trans (hb2.mono (rV _).size)⟩
theorem axI (ts:List ay) (A:Option Addr) (c:Nat) (t:Int) (pl:Bool) (g:Val→Bool) (l:List Val) (va:Value) (p4 p5 p7:Nat) (w:World) (hf:zL 107 ts (.slice A ts.length c) t pl g l) (hl:l.length≤140737488351232)
  (hv:qF w w.heap.size va l) (ht:aU w w.heap.size (.slice A ts.length c) ts) (h4:w.cell? ⟨p4,0,none⟩=some (.slice A ts.length c)) (h5:w.cell? ⟨p5,0,none⟩=some (.int .i64 t)) (h7:w.cell? ⟨p7,0,none⟩=some (.bool pl))
  (l4:p4 < w.heap.size) (l5:p5 < w.heap.size) (l7:p7 < w.heap.size) :
  Calls Tryz.prog 182 #[va,.func (.func 166) #[] #[.pointer (some ⟨p4,0,none⟩),.pointer (some ⟨p5,0,none⟩),.pointer (some ⟨p7,0,none⟩)]] w (RTq w (.int .i64 (Jc (aqK g l 0)))):=by
 obtain ⟨Al,cl,rfl,hcl⟩:=hv.form;have HF:=hiQ hf;have HV:=hiQ hv;have HT:=hiQ ht;have H4:=hiQ h4;have H5:=hiQ h5;have H7:=hiQ h7;clear hf hv ht h4 h5 h7;go_enter Tryz.func182,Tryz.ntmps182
 go_wp2
 go_loopw [8] (fun i wr => ∃ k:Nat,i = .int .i64 k∧k≤l.length∧aqK g l 0=aqK g (l.drop k) k∧Below w.heap.size w wr) (fun i _ => l.length - (intOf i).toNat)
 case atStart => exact ⟨0,rfl,by omega,rfl,Below.refl _ _⟩
 case round =>
  obtain ⟨k,rfl,hk,hix,hb⟩:=hrel;by_cases hlk:k < l.length
  ·
   obtain ⟨b,o,rfl,hbb,hel⟩:=(HV.out.on hb).elem (by omega);obtain ⟨vk,vi,vr,hcells,hm⟩:=hel k hlk;rw [List.drop_eq_getElem_cons hlk,aqK] at hix;have hmem:l[k] ∈ l:=List.getElem_mem hlk;generalize l[k]=y at *;obtain ⟨B1,k1,B2,k2,B3,k3,rfl,rfl,rfl,-,-,-⟩:=hm.forms;obtain ⟨c0,c1,c2,c3,c4,c5,c6,c7⟩:=hcells;have hsz:=hb.size;have HC:=hiQ (fun (W:World) => ayZ ts A c t pl g l y (.slice B1 y.keys.length k1) (.slice B2 y.items.length k2) (.slice B3 y.rest.length k3) p4 p5 p7 W HF.out hmem);have HM:=hiQ hm;have hi1:(k:Int) < l.length:=by omega
   clear hel hm hmem;cases hg:g y with
   | true =>
    rw [hg,if_pos rfl] at hix;have jB:=hiQ hix;rw [hg] at HC;clear hix hg;go_wp2_with fail;refine (HC.out _ HM.out (HT.out.on hb) ((hb.cell l4).trans H4.out) ((hb.cell l5).trans H5.out) ((hb.cell l7).trans H7.out) (by omega) (by omega) (by omega)).mono ?_;rintro e w2 ⟨rfl,hb2⟩;have Cm:=hb.trans (hb2.mono hb.size);clear hb2 hb;exact zEt
   | false =>
    rw [hg,if_neg (by simp)] at hix;have jB:=hiQ hix;rw [hg] at HC;clear hix hg;go_wp2_with fail;refine (HC.out _ HM.out (HT.out.on hb) ((hb.cell l4).trans H4.out) ((hb.cell l5).trans H5.out) ((hb.cell l7).trans H7.out) (by omega) (by omega) (by omega)).mono ?_;exact zEx
  rw [List.drop_eq_nil_of_le (by omega),aqK] at hix;exact zFu
theorem ay0 (o:Option Nat):decide (0≤Jc o)=o.isSome:=by
 cases o with
 | none => rfl
 | some k => simp [Jc]
theorem awE (ts:List ay) (A:Option Addr) (c:Nat) (t:Int) (pl:Bool) (g:Val→Bool) (l:List Val) (va:Value) (p4 p5 p7:Nat) (w:World) (hf:zL 107 ts (.slice A ts.length c) t pl g l) (hl:l.length≤140737488351232)
  (hv:qF w w.heap.size va l) (ht:aU w w.heap.size (.slice A ts.length c) ts) (h4:w.cell? ⟨p4,0,none⟩=some (.slice A ts.length c)) (h5:w.cell? ⟨p5,0,none⟩=some (.int .i64 t)) (h7:w.cell? ⟨p7,0,none⟩=some (.bool pl))
  (l4:p4 < w.heap.size) (l5:p5 < w.heap.size) (l7:p7 < w.heap.size) :
  Calls Tryz.prog 165 #[va,.func (.func 166) #[] #[.pointer (some ⟨p4,0,none⟩),.pointer (some ⟨p5,0,none⟩),.pointer (some ⟨p7,0,none⟩)]] w (RTq w (.bool (!l.all g))):=by
 obtain ⟨Al,cl,rfl,hcl⟩:=hv.form;have hsome:=ay0 (aqK g l 0);rw [aAe g l 0] at hsome;have HI:=hiQ (axI ts A c t pl g l _ p4 p5 p7 w hf hl hv ht h4 h5 h7 l4 l5 l7);generalize Jc (aqK g l 0)=r at *;clear hf hv ht h4 h5 h7;cases hr:decide (0≤r) with
 | true =>
  rw [hr] at hsome;have Hs:=hiQ hsome;clear hsome;have hr2:0≤r:=of_decide_eq_true hr;clear hr;go_enter Tryz.func165,Tryz.ntmps165
  go_wp2_with fail;refine HI.out.mono ?_;rintro e w2 ⟨rfl,hb2⟩;go_wp2_with fail;go_ret;exact ⟨au Hs.out,hb2⟩
 | false =>
  rw [hr] at hsome;have Hs:=hiQ hsome;clear hsome;have hr2:r < 0:=by have:=of_decide_eq_false hr;omega
  clear hr;go_enter Tryz.func165,Tryz.ntmps165
  go_wp2_with fail;refine HI.out.mono ?_;rintro e w2 ⟨rfl,hb2⟩;go_wp2_with fail;go_ret;exact ⟨au (by rw [decide_eq_false (by omega)];exact Hs.out),hb2⟩
theorem ars (ts:List ay) (A:Option Addr) (c:Nat) (t:Int) (pl:Bool) (g:Val→Bool) (l:List Val) (va:Value) (w:World) (hf:zL 107 ts (.slice A ts.length c) t pl g l) (hl:l.length≤140737488351232)
  (hv:qF w w.heap.size va l) (ht:aU w w.heap.size (.slice A ts.length c) ts) :
  Calls Tryz.prog 132 #[.agg #[.slice A ts.length c],.int .i64 t,va,.bool pl] w (RTq w (.bool (l.all g))):=by
 obtain ⟨Al,cl,rfl,hcl⟩:=hv.form;have h3b:=KH w;have HI:=(fun va W h1 h2 p4 p5 p7 h4 h5 h7 l4 l5 l7 => awE ts A c t pl g l va p4 p5 p7 W hf hl h1 h2 h4 h5 h7 l4 l5 l7)
 have HV:=hiQ hv;have HT:=hiQ ht;obtain ⟨q,hq⟩ : ∃ q,l.all g=q:=⟨_,rfl⟩
 rw [hq] at HI;rw [hq];have HI:=hiQ HI;clear hf hv ht hq;go_enter Tryz.func132,Tryz.ntmps132
 go_wp2_with fail;refine (HI.out _ _ (HV.out.on (h3b _ _ _)) (HT.out.on (h3b _ _ _)) w.heap.size (w.heap.size+1) (w.heap.size+1+1) (by go_simp) (by go_simp) (by go_simp) (by simp <;> omega) (by simp <;> omega) (by simp <;> omega)).mono ?_;rintro e w2 ⟨rfl,hb2⟩;have h02:=(h3b _ _ _).trans (hb2.mono (h3b _ _ _).size);clear hb2 h3b;cases q
 all_goals
  go_wp2_with fail;go_ret;exact ⟨rfl,h02⟩
theorem Jq (ts:List ay) (A:Option Addr) (c:Nat) (t:Int) (pl:Bool) (g:Val→Bool) (l:List Val) (va:Value) (w:World) (hf:zL 113 ts (.slice A ts.length c) t pl g l) (hl:l.length≤140737488351232)
  (hv:qF w w.heap.size va l) (ht:aU w w.heap.size (.slice A ts.length c) ts) :
  Calls Tryz.prog 142 #[.agg #[.slice A ts.length c],.int .i64 t,va,.bool pl] w (RTq w (.bool (l.all g))):=by
 obtain ⟨Al,cl,rfl,hcl⟩:=hv.form;have HF:=hiQ hf;have h01:=(Below.refl w.heap.size w).alloc (Nat.le_refl _) (.cells #[.slice A ts.length c] 25);have HP:=Has.made w 25 #[.slice A ts.length c];clear hf;go_enter Tryz.func142,Tryz.ntmps142
 go_wp2
 generalize w.alloc (.cells #[.slice A ts.length c] 25)=w1 at *;have HV:=hiQ (hv.on h01);have HT:=hiQ (ht.on h01);have hz:=HP.here;have hc0:w1.cell? ⟨w.heap.size,0,none⟩=some (.slice A ts.length c):=HP.cell 0;have HP:=hiQ HP;clear hv ht;have H0:=hiQ hc0;clear hc0;go_loopw [9] (fun i wr => ∃ k:Nat,i = .int .i64 k∧k≤l.length∧l.all g=(l.drop k).all g∧Below w1.heap.size w1 wr) (fun i _ => l.length - (intOf i).toNat)
 case atStart => exact ⟨0,rfl,by omega,rfl,Below.refl _ _⟩
 case round =>
  obtain ⟨k,rfl,hk,hix,hb⟩:=hrel;by_cases hlk:k < l.length
  ·
   obtain ⟨b,o,rfl,hbb,hel⟩:=(HV.out.on hb).elem (by omega);obtain ⟨vk,vi,vr,hcells,hm⟩:=hel k hlk;rw [List.drop_eq_getElem_cons hlk,List.all_cons] at hix;have hmem:l[k] ∈ l:=List.getElem_mem hlk;generalize l[k]=y at *;obtain ⟨B1,k1,B2,k2,B3,k3,rfl,rfl,rfl,-,-,-⟩:=hm.forms;obtain ⟨c0,c1,c2,c3,c4,c5,c6,c7⟩:=hcells;have hq:wr.cell? ⟨w.heap.size,0,none⟩=some (.slice A ts.length c):=(hb.cell (p:=⟨w.heap.size,0,none⟩) hz).trans H0.out;have hi1:(k:Int) < l.length:=by omega
   have HM:=hiQ hm;have HTr:=hiQ (HT.out.on hb);have xE:=hiQ hmem;have jB:=hiQ hix;have h0r:=h01.trans (hb.mono h01.size);clear hel hm hmem hix;go_wp2_with fail;go_still_tail 7,(by kernel_rfl)
   change wpList _ _ _ _ _ wr.drew
   have HD:=hiQ (HM.out.on (w':=wr.drew) (Below.refl _ _).drew);have HTD:=hiQ (HTr.out.on (w':=wr.drew) (Below.refl _ _).drew);have hbd:=hb.drew;have GK:=h0r.drew;clear hb h0r c0 c1 c2 c3 c4 c5 c6 c7 HM HTr hq;generalize wr.drew=w2 at *;go_wp2_with fail;refine (HF.out y _ _ _ _ xE.out HD.out HTD.out).mono ?_;rintro e w3 ⟨rfl,hb3⟩;have ams:=hbd.trans (hb3.mono hbd.size);have h03:=GK.trans (hb3.mono GK.size);clear hb3 hbd GK;cases hg:g y with
   | true =>
    rw [hg] at jB;clear hg;go_wp2_with fail;go_roundw
    case rel => exact ⟨k+1,by go_num,by omega,jB.out,ams⟩
    case measure => simp [intOf];omega
   | false =>
    rw [hg] at jB;clear hg;go_wp2_with fail;go_ret;exact ⟨au (by rw [jB.out];rfl),h03⟩
  rw [List.drop_eq_nil_of_le (by omega)] at hix;have jB:=hiQ hix;clear hix;go_wp2_with fail;go_ret;exact ⟨au (by rw [jB.out];rfl),h01.trans (hb.mono h01.size)⟩
def mM (id:Int):Bool:=decide (1≤id∧id≤1000)
theorem zFl {p:Prop} (h:p:=by
 go_enter Tryz.func131,Tryz.ntmps131
 go_wp2
 go_ret;exact ⟨au (by rw [hf.out];first | exact (decide_eq_true (by omega)).symm | exact (decide_eq_false (by omega)).symm),rfl⟩):p:=h
theorem aol (id:Int) (w:World):Calls Tryz.prog 131 #[.int .i64 id] w fun e w' => e = .returned (.bool (mM id))∧w=w':=by
 have hf:Hid (mM id=decide (1≤id∧id≤1000)):=by show _=_;rfl
 by_cases h1:1≤id
 ·
  by_cases h2:id≤1000
  all_goals
   exact zFl
 exact zFl
theorem zEo {p:Prop} (h:p:=by
 go_enter Tryz.func140,Tryz.ntmps140
 go_wp2
 go_ret;exact ⟨au (by rw [hf.out];first | (rw [decide_eq_true (by omega)];rfl) | rw [decide_eq_true (by omega)] | (rw [decide_eq_false (by omega)];rfl) | rw [decide_eq_false (by omega)]),rfl⟩):p:=h
theorem EX (id:Int) (kn:Bool) (w:World):Calls Tryz.prog 140 #[.int .i64 id,.bool kn] w fun e w' => e = .returned (.bool (!kn && mM id))∧w=w':=by
 have hf:Hid (mM id=decide (1≤id∧id≤1000)):=by show _=_;rfl
 cases kn with
 | true =>
  go_enter Tryz.func140,Tryz.ntmps140
  go_wp2
  go_ret;exact ⟨rfl,rfl⟩
 | false =>
  by_cases h1:1≤id
  ·
   by_cases h2:id≤1000
   all_goals
    exact zEo
  exact zEo
def xH (p:Option Int) (n:Int):Bool:=match p with | some q => decide (q < n) | none => true
def xK (t:ay):List Raw→Option Int→Bool
 | [],_ => true
 | r :: rs,p => !(dN t r.1).isSome && (mM r.1 && (xH p r.1 && xK t rs (some r.1)))
def ati:List Val→Bool
 | [] => true
 | [_] => true
 | x :: y :: r => decide (alD x y < 0) && ati (y :: r)
def bM (ts:List ay) (t:Int):Option ay:=if 0≤t then ts[t.toNat]? else none
def KW (l:List Raw) (id:Int):Bool:=match l with | r :: _ => decide (r.1=id) | [] => false
theorem abZ (l:List Raw) (id:Int) (h:0 < l.length):KW l id=decide (l[0].1=id):=by
 cases l with
 | nil => simp at h
 | cons r rs => rfl
def ig (pl:Bool) (x:ay) (v:Val) (K I:Int→Bool) (Z:List Mem→Bool) (H:Int→Bool):Bool :=
 if x.kind=2 then decide (x.low≤v.num∧v.num≤x.high)
 else if x.kind=3 then decide ((v.str.length:Int)≤x.max)
 else if x.kind=4 then (qm x v.id).isSome || (x.opn && (!pl && mM v.id))
 else if x.kind=5 then decide (v.items.length=x.ah.length) && (!(pl && decide (0 < v.rest.length)) && (xK x v.rest none && Z x.ah))
 else if x.kind=6 then
  match dN x v.id with
  | some i => decide (v.items.length=1) && (decide (v.rest.length=0) && (match x.ah[i]? with | some m => H m.ty | none => false))
  | none => x.opn && (!pl && (mM v.id && (decide (v.items.length=0) && (decide (v.rest.length=1) && KW v.rest v.id))))
 else if x.kind=7 then decide ((v.items.length:Int)≤x.max) && I x.elem
 else if x.kind=8 then decide ((v.keys.length:Int)≤x.max) && (decide (v.items.length=v.keys.length) && (K x.key && (ati v.keys && I x.elem)))
 else if x.kind=9 then decide (v.items.length≤1) && I x.elem
 else true
mutual
def cO (ts:List ay) (pl:Bool):Val→Int→Bool
 | .mk k b n s id ks is rs,t => match bM ts t with
  | none => false
  | some x => decide (k=x.kind) && (aA (.mk k b n s id ks is rs) && ig pl x (.mk k b n s id ks is rs) (fun t => rC ts pl ks t) (fun t => rC ts pl is t) (fun ms => qL ts pl is ms) (fun t => zM ts pl is t))
def rC (ts:List ay) (pl:Bool):List Val→Int→Bool
 | [],_ => true
 | y :: r,t => cO ts pl y t && rC ts pl r t
def qL (ts:List ay) (pl:Bool):List Val→List Mem→Bool
 | [],[] => true
 | y :: r,m :: ms => cO ts pl y m.ty && qL ts pl r ms
 | [],_ :: _ => false
 | _ :: _,[] => false
def zM (ts:List ay) (pl:Bool):List Val→Int→Bool
 | [],_ => false
 | y :: _,t => cO ts pl y t
end
theorem uT (ts:List ay) (pl:Bool) (t:Int):∀ l:List Val,rC ts pl l t=l.all (fun y => cO ts pl y t)
 | [] => by rw [rC];rfl
 | y :: r => by rw [rC,List.all_cons,uT ts pl t r]
theorem kG (ts:List ay) (pl:Bool) (v:Val) (t:Int):cO ts pl v t=match bM ts t with
  | none => false
  | some x => decide (v.kind=x.kind) && (aA v && ig pl x v (fun t => rC ts pl v.keys t) (fun t => rC ts pl v.items t) (fun ms => qL ts pl v.items ms) (fun t => zM ts pl v.items t)):=by
 cases v;rw [cO];rfl
abbrev jT (ts:List ay) (pl:Bool) (x:ay) (v:Val):Bool:=ig pl x v (fun t => rC ts pl v.keys t) (fun t => rC ts pl v.items t) (fun ms => qL ts pl v.items ms) (fun t => zM ts pl v.items t)
end Go.Proofs.YtlamhkffnlgofaaGreatDoor
