/- What sheaveref07.plain and Named compute, and what else is used with it. No condition. -/
import Derived.Test.YtkaedmpppnnamaaGreatDoorForm
import Derived.Deep.QuietTactic
import Derived.BigQuiet
set_option maxHeartbeats 8000000
set_option maxRecDepth 100000
namespace Go.Proofs.YtkaedmpppnnamaaGreatDoor
open ChangeShapes WideShapes ChangeAt RowKit
def rY (k:Int):Bool:=decide (k=4\/k=5\/k=6)
theorem JF (k:Int) (w:World):Calls Tryz.prog 34 #[.int .i64 k] w fun e w' => e = .returned (.bool (rY k))/\w=w':=by
 have Hd:Hid (rY k=((k == 4) || ((k == 5) || (k == 6)))):=by show _=_;unfold rY;rw [Bool.eq_iff_iff];simp
 go_enter Tryz.func34,Tryz.ntmps34
 go_wp2
 all_goals
  go_ret;exact ⟨au (by rw [Hd.out];first | rfl | (simp;done) | (rw [Bool.eq_iff_iff];simp;omega) | simp_all),rfl⟩
def jM (x:ay):ay :=
 if x.kind=1 then { iC with kind:=x.kind }
 else if x.kind=2 then { iC with kind:=x.kind,low:=x.low,high:=x.high }
 else if x.kind=3 then { iC with kind:=x.kind,max:=x.max }
 else if x.kind=4 then { iC with kind:=x.kind,name:=x.name,syms:=x.syms,opn:=x.opn }
 else if x.kind=5 then { iC with kind:=x.kind,name:=x.name,ah:=x.ah }
 else if x.kind=6 then { iC with kind:=x.kind,name:=x.name,ah:=x.ah,opn:=x.opn }
 else if x.kind=7 then { iC with kind:=x.kind,max:=x.max,elem:=x.elem }
 else if x.kind=8 then { iC with kind:=x.kind,max:=x.max,key:=x.key,elem:=x.elem }
 else { iC with kind:=x.kind,elem:=x.elem }
def lF (x:ay) (vs:Value):Value:=if x.kind=4 then vs else .slice none 0 0
def lG (x:ay) (vm:Value):Value:=if x.kind=5\/x.kind=6 then vm else .slice none 0 0
theorem aai (x:ay) (A1 A2:Option Addr) (c1 c2:Nat) (w:World) (h:x.kind=1) :
  Calls Tryz.prog 95 #[dA x (.slice A1 x.syms.length c1) (.slice A2 x.ah.length c2)] w (RT w (dA (jM x) (lF x (.slice A1 x.syms.length c1)) (lG x (.slice A2 x.ah.length c2)))):=by
 have hres:dA (jM x) (lF x (.slice A1 x.syms.length c1)) (lG x (.slice A2 x.ah.length c2)) = .agg #[.int .i64 1,.string ⟨#[]⟩,.int .i64 0,.int .i64 0,.int .i64 0,.slice none 0 0,.slice none 0 0,.int .i64 0,.int .i64 0,.bool false]:=by unfold jM lF lG;simp [h,iC]
 rw [hres];simp only [dA,h];clear hres;go_enter Tryz.func95,Tryz.ntmps95
 go_upto_region 1 with fail;refine jg (fun wd2 hb1 T R => ?_);have hw3:=hb1;clear hb1;obtain ⟨aC,bH,bQ,acX,aW,bP,bf,bF,aV,aJ⟩:=T.out.c10;go_upto_region 3 with fail;go_wp2_with (refine sR R.out ?_)
 clear aC bH bQ acX aW bP bf bF aV aJ;generalize nH:wd2.setRow _ _=wd4;replace T:=f1 T (eR nH);replace R:=dV R nH;replace hw3:=tr hw3 nH;clear nH;exact vJ (v:=.agg #[.int .i64 1,.string ⟨#[]⟩,.int .i64 0,.int .i64 0,.int .i64 0,.slice none 0 0,.slice none 0 0,.int .i64 0,.int .i64 0,.bool false]) (by simp [results,Tryz.results95,go_sem,R.out.c10]) rfl (⟨rfl,hw3⟩)
theorem aaj (x:ay) (A1 A2:Option Addr) (c1 c2:Nat) (w:World) (h:x.kind=2) :
  Calls Tryz.prog 95 #[dA x (.slice A1 x.syms.length c1) (.slice A2 x.ah.length c2)] w (RT w (dA (jM x) (lF x (.slice A1 x.syms.length c1)) (lG x (.slice A2 x.ah.length c2)))):=by
 have hres:dA (jM x) (lF x (.slice A1 x.syms.length c1)) (lG x (.slice A2 x.ah.length c2)) = .agg #[.int .i64 2,.string ⟨#[]⟩,.int .i64 x.low,.int .i64 x.high,.int .i64 0,.slice none 0 0,.slice none 0 0,.int .i64 0,.int .i64 0,.bool false]:=by unfold jM lF lG;simp [h,iC]
 rw [hres];simp only [dA,h];clear hres;go_enter Tryz.func95,Tryz.ntmps95
 go_upto_region 1 with fail;refine jg (fun wd2 hb1 T R => ?_);have hw3:=hb1;clear hb1;obtain ⟨aC,bH,bQ,acX,aW,bP,bf,bF,aV,aJ⟩:=T.out.c10;go_upto_region 5 with fail;go_wp2_with (refine sR R.out ?_)
 clear aC bH bQ acX aW bP bf bF aV aJ;generalize nH:wd2.setRow _ _=wd4;replace T:=f1 T (eR nH);replace R:=dV R nH;replace hw3:=tr hw3 nH;clear nH;exact vJ (v:=.agg #[.int .i64 2,.string ⟨#[]⟩,.int .i64 x.low,.int .i64 x.high,.int .i64 0,.slice none 0 0,.slice none 0 0,.int .i64 0,.int .i64 0,.bool false]) (by simp [results,Tryz.results95,go_sem,R.out.c10]) rfl (⟨rfl,hw3⟩)
theorem aak (x:ay) (A1 A2:Option Addr) (c1 c2:Nat) (w:World) (h:x.kind=3) :
  Calls Tryz.prog 95 #[dA x (.slice A1 x.syms.length c1) (.slice A2 x.ah.length c2)] w (RT w (dA (jM x) (lF x (.slice A1 x.syms.length c1)) (lG x (.slice A2 x.ah.length c2)))):=by
 have hres:dA (jM x) (lF x (.slice A1 x.syms.length c1)) (lG x (.slice A2 x.ah.length c2)) = .agg #[.int .i64 3,.string ⟨#[]⟩,.int .i64 0,.int .i64 0,.int .i64 x.max,.slice none 0 0,.slice none 0 0,.int .i64 0,.int .i64 0,.bool false]:=by unfold jM lF lG;simp [h,iC]
 rw [hres];simp only [dA,h];clear hres;go_enter Tryz.func95,Tryz.ntmps95
 go_upto_region 1 with fail;refine jg (fun wd2 hb1 T R => ?_);have hw3:=hb1;clear hb1;obtain ⟨aC,bH,bQ,acX,aW,bP,bf,bF,aV,aJ⟩:=T.out.c10;go_upto_region 7 with fail;go_wp2_with (refine sR R.out ?_)
 clear aC bH bQ acX aW bP bf bF aV aJ;generalize nH:wd2.setRow _ _=wd4;replace T:=f1 T (eR nH);replace R:=dV R nH;replace hw3:=tr hw3 nH;clear nH;exact vJ (v:=.agg #[.int .i64 3,.string ⟨#[]⟩,.int .i64 0,.int .i64 0,.int .i64 x.max,.slice none 0 0,.slice none 0 0,.int .i64 0,.int .i64 0,.bool false]) (by simp [results,Tryz.results95,go_sem,R.out.c10]) rfl (⟨rfl,hw3⟩)
theorem aal (x:ay) (A1 A2:Option Addr) (c1 c2:Nat) (w:World) (h:x.kind=4) :
  Calls Tryz.prog 95 #[dA x (.slice A1 x.syms.length c1) (.slice A2 x.ah.length c2)] w (RT w (dA (jM x) (lF x (.slice A1 x.syms.length c1)) (lG x (.slice A2 x.ah.length c2)))):=by
 have hres:dA (jM x) (lF x (.slice A1 x.syms.length c1)) (lG x (.slice A2 x.ah.length c2)) = .agg #[.int .i64 4,.string ⟨x.name.toArray⟩,.int .i64 0,.int .i64 0,.int .i64 0,.slice A1 x.syms.length c1,.slice none 0 0,.int .i64 0,.int .i64 0,.bool x.opn]:=by unfold jM lF lG;simp [h,iC]
 rw [hres];simp only [dA,h];clear hres;go_enter Tryz.func95,Tryz.ntmps95
 go_upto_region 1 with fail;refine jg (fun wd2 hb1 T R => ?_);have hw3:=hb1;clear hb1;obtain ⟨aC,bH,bQ,acX,aW,bP,bf,bF,aV,aJ⟩:=T.out.c10;go_upto_region 9 with fail;go_wp2_with (refine sR R.out ?_)
 clear aC bH bQ acX aW bP bf bF aV aJ;generalize nH:wd2.setRow _ _=wd4;replace T:=f1 T (eR nH);replace R:=dV R nH;replace hw3:=tr hw3 nH;clear nH;exact vJ (v:=.agg #[.int .i64 4,.string ⟨x.name.toArray⟩,.int .i64 0,.int .i64 0,.int .i64 0,.slice A1 x.syms.length c1,.slice none 0 0,.int .i64 0,.int .i64 0,.bool x.opn]) (by simp [results,Tryz.results95,go_sem,R.out.c10]) rfl (⟨rfl,hw3⟩)
theorem aam (x:ay) (A1 A2:Option Addr) (c1 c2:Nat) (w:World) (h:x.kind=5) :
  Calls Tryz.prog 95 #[dA x (.slice A1 x.syms.length c1) (.slice A2 x.ah.length c2)] w (RT w (dA (jM x) (lF x (.slice A1 x.syms.length c1)) (lG x (.slice A2 x.ah.length c2)))):=by
 have hres:dA (jM x) (lF x (.slice A1 x.syms.length c1)) (lG x (.slice A2 x.ah.length c2)) = .agg #[.int .i64 5,.string ⟨x.name.toArray⟩,.int .i64 0,.int .i64 0,.int .i64 0,.slice none 0 0,.slice A2 x.ah.length c2,.int .i64 0,.int .i64 0,.bool false]:=by unfold jM lF lG;simp [h,iC]
 rw [hres];simp only [dA,h];clear hres;go_enter Tryz.func95,Tryz.ntmps95
 go_upto_region 1 with fail;refine jg (fun wd2 hb1 T R => ?_);have hw3:=hb1;clear hb1;obtain ⟨aC,bH,bQ,acX,aW,bP,bf,bF,aV,aJ⟩:=T.out.c10;go_upto_region 11 with fail;go_wp2_with (refine sR R.out ?_)
 clear aC bH bQ acX aW bP bf bF aV aJ;generalize nH:wd2.setRow _ _=wd4;replace T:=f1 T (eR nH);replace R:=dV R nH;replace hw3:=tr hw3 nH;clear nH;exact vJ (v:=.agg #[.int .i64 5,.string ⟨x.name.toArray⟩,.int .i64 0,.int .i64 0,.int .i64 0,.slice none 0 0,.slice A2 x.ah.length c2,.int .i64 0,.int .i64 0,.bool false]) (by simp [results,Tryz.results95,go_sem,R.out.c10]) rfl (⟨rfl,hw3⟩)
theorem aan (x:ay) (A1 A2:Option Addr) (c1 c2:Nat) (w:World) (h:x.kind=6) :
  Calls Tryz.prog 95 #[dA x (.slice A1 x.syms.length c1) (.slice A2 x.ah.length c2)] w (RT w (dA (jM x) (lF x (.slice A1 x.syms.length c1)) (lG x (.slice A2 x.ah.length c2)))):=by
 have hres:dA (jM x) (lF x (.slice A1 x.syms.length c1)) (lG x (.slice A2 x.ah.length c2)) = .agg #[.int .i64 6,.string ⟨x.name.toArray⟩,.int .i64 0,.int .i64 0,.int .i64 0,.slice none 0 0,.slice A2 x.ah.length c2,.int .i64 0,.int .i64 0,.bool x.opn]:=by unfold jM lF lG;simp [h,iC]
 rw [hres];simp only [dA,h];clear hres;go_enter Tryz.func95,Tryz.ntmps95
 go_upto_region 1 with fail;refine jg (fun wd2 hb1 T R => ?_);have hw3:=hb1;clear hb1;obtain ⟨aC,bH,bQ,acX,aW,bP,bf,bF,aV,aJ⟩:=T.out.c10;go_upto_region 13 with fail;go_wp2_with (refine sR R.out ?_)
 clear aC bH bQ acX aW bP bf bF aV aJ;generalize nH:wd2.setRow _ _=wd4;replace T:=f1 T (eR nH);replace R:=dV R nH;replace hw3:=tr hw3 nH;clear nH;exact vJ (v:=.agg #[.int .i64 6,.string ⟨x.name.toArray⟩,.int .i64 0,.int .i64 0,.int .i64 0,.slice none 0 0,.slice A2 x.ah.length c2,.int .i64 0,.int .i64 0,.bool x.opn]) (by simp [results,Tryz.results95,go_sem,R.out.c10]) rfl (⟨rfl,hw3⟩)
theorem aao (x:ay) (A1 A2:Option Addr) (c1 c2:Nat) (w:World) (h:x.kind=7) :
  Calls Tryz.prog 95 #[dA x (.slice A1 x.syms.length c1) (.slice A2 x.ah.length c2)] w (RT w (dA (jM x) (lF x (.slice A1 x.syms.length c1)) (lG x (.slice A2 x.ah.length c2)))):=by
 have hres:dA (jM x) (lF x (.slice A1 x.syms.length c1)) (lG x (.slice A2 x.ah.length c2)) = .agg #[.int .i64 7,.string ⟨#[]⟩,.int .i64 0,.int .i64 0,.int .i64 x.max,.slice none 0 0,.slice none 0 0,.int .i64 0,.int .i64 x.elem,.bool false]:=by unfold jM lF lG;simp [h,iC]
 rw [hres];simp only [dA,h];clear hres;go_enter Tryz.func95,Tryz.ntmps95
 go_upto_region 1 with fail;refine jg (fun wd2 hb1 T R => ?_);have hw3:=hb1;clear hb1;obtain ⟨aC,bH,bQ,acX,aW,bP,bf,bF,aV,aJ⟩:=T.out.c10;go_upto_region 15 with fail;go_wp2_with (refine sR R.out ?_)
 clear aC bH bQ acX aW bP bf bF aV aJ;generalize nH:wd2.setRow _ _=wd4;replace T:=f1 T (eR nH);replace R:=dV R nH;replace hw3:=tr hw3 nH;clear nH;exact vJ (v:=.agg #[.int .i64 7,.string ⟨#[]⟩,.int .i64 0,.int .i64 0,.int .i64 x.max,.slice none 0 0,.slice none 0 0,.int .i64 0,.int .i64 x.elem,.bool false]) (by simp [results,Tryz.results95,go_sem,R.out.c10]) rfl (⟨rfl,hw3⟩)
theorem aap (x:ay) (A1 A2:Option Addr) (c1 c2:Nat) (w:World) (h:x.kind=8) :
  Calls Tryz.prog 95 #[dA x (.slice A1 x.syms.length c1) (.slice A2 x.ah.length c2)] w (RT w (dA (jM x) (lF x (.slice A1 x.syms.length c1)) (lG x (.slice A2 x.ah.length c2)))):=by
 have hres:dA (jM x) (lF x (.slice A1 x.syms.length c1)) (lG x (.slice A2 x.ah.length c2)) = .agg #[.int .i64 8,.string ⟨#[]⟩,.int .i64 0,.int .i64 0,.int .i64 x.max,.slice none 0 0,.slice none 0 0,.int .i64 x.key,.int .i64 x.elem,.bool false]:=by unfold jM lF lG;simp [h,iC]
 rw [hres];simp only [dA,h];clear hres;go_enter Tryz.func95,Tryz.ntmps95
 go_upto_region 1 with fail;refine jg (fun wd2 hb1 T R => ?_);have hw3:=hb1;clear hb1;obtain ⟨aC,bH,bQ,acX,aW,bP,bf,bF,aV,aJ⟩:=T.out.c10;go_upto_region 17 with fail;go_wp2_with (refine sR R.out ?_)
 clear aC bH bQ acX aW bP bf bF aV aJ;generalize nH:wd2.setRow _ _=wd4;replace T:=f1 T (eR nH);replace R:=dV R nH;replace hw3:=tr hw3 nH;clear nH;exact vJ (v:=.agg #[.int .i64 8,.string ⟨#[]⟩,.int .i64 0,.int .i64 0,.int .i64 x.max,.slice none 0 0,.slice none 0 0,.int .i64 x.key,.int .i64 x.elem,.bool false]) (by simp [results,Tryz.results95,go_sem,R.out.c10]) rfl (⟨rfl,hw3⟩)
theorem aaq (x:ay) (A1 A2:Option Addr) (c1 c2:Nat) (w:World) (h:x.kind=9) :
  Calls Tryz.prog 95 #[dA x (.slice A1 x.syms.length c1) (.slice A2 x.ah.length c2)] w (RT w (dA (jM x) (lF x (.slice A1 x.syms.length c1)) (lG x (.slice A2 x.ah.length c2)))):=by
 have hres:dA (jM x) (lF x (.slice A1 x.syms.length c1)) (lG x (.slice A2 x.ah.length c2)) = .agg #[.int .i64 9,.string ⟨#[]⟩,.int .i64 0,.int .i64 0,.int .i64 0,.slice none 0 0,.slice none 0 0,.int .i64 0,.int .i64 x.elem,.bool false]:=by unfold jM lF lG;simp [h,iC]
 rw [hres];simp only [dA,h];clear hres;go_enter Tryz.func95,Tryz.ntmps95
 go_upto_region 1 with fail;refine jg (fun wd2 hb1 T R => ?_);have hw3:=hb1;clear hb1;obtain ⟨aC,bH,bQ,acX,aW,bP,bf,bF,aV,aJ⟩:=T.out.c10;go_upto_region 18 with fail;go_wp2_with (refine sR R.out ?_)
 clear aC bH bQ acX aW bP bf bF aV aJ;generalize nH:wd2.setRow _ _=wd4;replace T:=f1 T (eR nH);replace R:=dV R nH;replace hw3:=tr hw3 nH;clear nH;exact vJ (v:=.agg #[.int .i64 9,.string ⟨#[]⟩,.int .i64 0,.int .i64 0,.int .i64 0,.slice none 0 0,.slice none 0 0,.int .i64 0,.int .i64 x.elem,.bool false]) (by simp [results,Tryz.results95,go_sem,R.out.c10]) rfl (⟨rfl,hw3⟩)
theorem acP (x:ay) (vs vm:Value) (w:World) (hk:iP x.kind) (hs:∃ A1 c1,vs = .slice A1 x.syms.length c1) (hm:∃ A2 c2,vm = .slice A2 x.ah.length c2) :
  Calls Tryz.prog 95 #[dA x vs vm] w (RT w (dA (jM x) (lF x vs) (lG x vm))):=by
 obtain ⟨A1,c1,rfl⟩:=hs;obtain ⟨A2,c2,rfl⟩:=hm;rcases vF hk with h | h | h | h | h | h | h | h | h
 . exact aai x A1 A2 c1 c2 w h
 . exact aaj x A1 A2 c1 c2 w h
 . exact aak x A1 A2 c1 c2 w h
 . exact aal x A1 A2 c1 c2 w h
 . exact aam x A1 A2 c1 c2 w h
 . exact aan x A1 A2 c1 c2 w h
 . exact aao x A1 A2 c1 c2 w h
 . exact aap x A1 A2 c1 c2 w h
 exact aaq x A1 A2 c1 c2 w h
def Il (b n:Int):Bool:=decide (b < n) && mM n
theorem PW (b n:Int) (w:World):Calls Tryz.prog 120 #[.int .i64 b,.int .i64 n] w fun e w' => e = .returned (.bool (Il b n))/\w=w':=by
 have Hd:Hid (Il b n=(decide (b < n) && (decide (1<=n) && decide (n<=1000)))):=by show _=_;unfold Il mM;rw [Bool.eq_iff_iff];simp
 go_enter Tryz.func120,Tryz.ntmps120
 go_wp2
 all_goals
  go_ret;exact ⟨au (by rw [Hd.out];first | rfl | (simp;done) | (simp;omega) | (rw [Bool.eq_iff_iff];simp;omega)),rfl⟩
def wK (l:List Raw) (k:Nat):Int:=match nD l k with | some a => a | none => 0
theorem W9 (l:List Raw) (k:Nat) (a:Int):(mM a && xH (nD l k) a)=Il (wK l k) a:=by
 unfold Il wK;cases nD l k with
 | none =>
  simp only [xH,Bool.and_true];by_cases h:0 < a
  . rw [n_ h];rfl
  rw [f_ h];unfold mM;rw [f_ (show ¬ (1<=a/\a<=1000) by omega)];rfl
 | some q => simp only [xH];rw [Bool.and_comm]
theorem JG (l:List Raw) (k:Nat) (h:k < l.length):wK l (k+1)=l[k].1:=by unfold wK;rw [tZ l k h]
theorem AY (l:List (List UInt8)) (q:Nat) (h:q < l.length) (s:List UInt8):(l.take (q+1)).contains s=((l.take q).contains s || l[q] == s):=by
 rw [vK h,Bool.eq_iff_iff];simp only [List.contains_iff_mem,Dp,Qp,QF,TL]
 constructor
 .
  rintro (h | h)
  . exact .inl h
  exact .inr h.symm
 rintro (h | h)
 . exact .inl h
 exact .inr h.symm
theorem I5 (l:List (List UInt8)) (q k:Nat) (h:q < k) (hk:k<=l.length):(l.take k).contains (l[q]'(by omega))=true:=by
 rw [List.contains_iff_mem,List.mem_take_iff_getElem];exact ⟨q,by omega,rfl⟩
theorem zDs {p:Prop} (h:p:=by
 go_wp2_with fail;go_roundw
 case rel => exact ⟨q+1,by omega,by go_num,by rw [HZ.out],jB.out,hb⟩
 case measure => simp [intOf];omega):p:=h
theorem zIn {p:Prop} (h:p:=by
 go_quiet (fail)
 go_wp2_with fail;go_ret;exact ⟨au Hno.out.symm,below_drewN hb _⟩):p:=h
theorem Xa (l:List Raw) (va:Value) (w:World) (hl:l.length<=140737488351232) (h1:Rd w w.heap.size 2 va l.length (jO l)) :
  Calls Tryz.prog 97 #[va] w (RT w (.bool (wu l))):=by
 obtain ⟨A,c,rfl,hca⟩:=h1.form;have H1:=hiQ h1;clear h1;go_enter Tryz.func97,Tryz.ntmps97
 go_wp2_with fail;go_loopw [3,4] (fun b i wr => ∃ k:Nat,k<=l.length/\i = .int .i64 k/\b = .int .i64 (wK l k)/\nO l none []=nO (l.drop k) (nD l k) ((l.take k).map Prod.snd)/\Below w.heap.size w wr) (fun _ i _ => l.length - (intOf i).toNat)
 case atStart => exact ⟨0,by omega,rfl,rfl,by simp [nD],g_ _ _⟩
 case round =>
  obtain ⟨k,hk,rfl,rfl,hid,hb⟩:=hrel;by_cases hlt:k < l.length
  .
   obtain ⟨ba,o1,rfl,hb1,hc1⟩:=(H1.out.below hb).at_ (by omega);obtain ⟨x1,x2⟩:=qy hc1 k hlt;rw [SK l k hlt,<- Bool.and_assoc,W9] at hid;have hi1:(k:Int) < l.length:=by omega
   obtain ⟨a,haq⟩ : ∃ a,l[k].1=a:=⟨_,rfl⟩
   obtain ⟨s,Fe⟩ : ∃ s,l[k].2=s:=⟨_,rfl⟩
   rw [haq] at x1 hid;rw [Fe] at x2 hid;have HZ:Hid (wK l (k+1)=a):=by show _=_;rw [JG l k hlt,haq]
   have Xb:Hid (nD l (k+1)=some a):=by show _=_;rw [tZ l k hlt,haq]
   have Xc:Hid ((l.take k).map Prod.snd ++ [s]=(l.take (k+1)).map Prod.snd):=by show _=_;rw [<- Fe];exact ao5 l k hlt
   have HAQ:=hiQ haq;have HSQ:=hiQ Fe;clear haq Fe;have xX:=fun W => PW (wK l k) a W;generalize wK l k=z at *;clear hc1;cases hia:Il z a with
   | false =>
    rw [hia] at xX hid;have qN:=hiQ xX;have Hno:Hid (wu l=false):=by show _=_;unfold wu nP;rw [hid];simp
    clear hid xX hia;go_wp2_with fail;refine (qN.out _).mono ?_;rintro e w2 ⟨rfl,rfl⟩;exact zCq
   | true =>
    rw [hia,CX] at hid;rw [hia] at xX;have qN:=hiQ xX;clear xX hia;have hname:=fun W => D5 s W;cases hn:nameB s with
    | false =>
     rw [hn] at hname hid;have HN:=hiQ hname;have Hno:Hid (wu l=false):=by show _=_;unfold wu nP;rw [hid];simp
     clear hid hname hn;go_wp2_with fail;refine (qN.out _).mono ?_;rintro e w2 ⟨rfl,rfl⟩;go_wp2_with fail;refine (HN.out _).mono ?_;rintro e w2 ⟨rfl,rfl⟩;exact zCq
    | true =>
     rw [hn,CX] at hid;rw [hn] at hname;have HN:=hiQ hname;have avp:=hiQ hid;clear hid hname hn;go_wp2_with fail;refine (qN.out _).mono ?_;rintro e w2 ⟨rfl,rfl⟩;go_wp2_with fail;refine (HN.out _).mono ?_;rintro e w2 ⟨rfl,rfl⟩;go_wp2_with fail;have Hb0:=hiQ hb;go_loopw [5] (fun j ws => ∃ q:Nat,q<=k/\j = .int .i64 q/\((l.map Prod.snd).take q).contains s=false/\Below w.heap.size w ws) (fun j _ => k - (intOf j).toNat)
     case atStart => exact ⟨0,by omega,rfl,rfl,Hb0.out⟩
     case round =>
      clear hb Hb0 x1 x2;obtain ⟨q,hq,rfl,hnc,hb⟩:=hrel;have hcq:=(H1.out.below hb).at_ (by omega);obtain ⟨b2,o2,hbe,hb2,hc2⟩:=hcq;injection hbe with hbe;injection hbe with am8 am9;subst am8 am9;have z1:=(qy hc2 k hlt).1;have z2:=(qy hc2 k hlt).2;rw [HAQ.out] at z1;rw [HSQ.out] at z2;by_cases hqk:q < k
      .
       have tV:q < l.length:=by omega
       have y2:=(qy hc2 q tV).2;have hsu:=AY (l.map Prod.snd) q (by simpa using tV) s;have hit:=I5 (l.map Prod.snd) q k hqk (by simpa using hk);rw [OX] at hsu hit;have aar:(q:Int) < k:=by omega
       have aas:(q:Int) < l.length:=by omega
       generalize l[q].2=p at *;clear hc2;by_cases hps:p=s
       .
        have ED:(p == s)=true:=by simp [hps]
        have Hno:Hid (wu l=false):=by
         show _=_;unfold wu nP;rw [avp.out,List.map_take,<- hps,hit];simp
        clear hps hsu hit hnc;go_upto_region 10 with fail;exact zIn
       have ED:(p == s)=false:=by simpa using hps
       have Me:Hid (((l.map Prod.snd).take (q+1)).contains s=false):=by show _=_;rw [hsu,hnc,ED];rfl
       clear hps hsu hit hnc;go_upto_region 10 with fail;go_quiet (fail)
       go_wp2_with fail;go_roundw
       case rel => exact ⟨q+1,by omega,by go_num,Me.out,below_drewN hb _⟩
       case measure => simp [intOf];omega
      obtain rfl:q=k:=by omega
      have jB:Hid (nO l none []=nO (l.drop (q+1)) (nD l (q+1)) ((l.take (q+1)).map Prod.snd)):=by
       show _=_;rw [avp.out,List.map_take,hnc,Xb.out,<- Xc.out,List.map_take];rfl
      clear hc2 hnc;exact zDs
  obtain rfl:k=l.length:=by omega
  rw [G_ (b_ _),nO] at hid;have Hs:Hid (wu l=(decide (1<=(l.length:Int)) && decide ((l.length:Int)<=16))):=by
   show _=_;unfold wu nP;rw [hid,CX];rw [Bool.eq_iff_iff];simp;omega
  clear hid;go_wp2_with fail
  all_goals
   go_ret;exact ⟨au (by rw [Hs.out];first | rfl | (simp;done) | (rw [Bool.eq_iff_iff];simp;omega) | simp_all),hb⟩
def jL (rc:Bool) (l:List Mem):Bool:=(l.all (jf (!rc)) && nO (l.map bW) none []) && (decide (l.length<=16) && (rc || decide (1<=l.length)))
theorem YZ (l:List Mem) (k:Nat) (h:k < l.length) (f:Mem->Bool) (S:List (List UInt8)) :
  ((l.drop k).all f && nO ((l.map bW).drop k) (nD (l.map bW) k) S)=(Il (wK (l.map bW) k) l[k].id && (nameB l[k].name && (f l[k] && (!S.contains l[k].name && ((l.drop (k+1)).all f && nO ((l.map bW).drop (k+1)) (some l[k].id) (S ++ [l[k].name])))))):=by
 have hk:k < (l.map bW).length:=by simpa using h
 have hg:(l.map bW)[k]=(l[k].id,l[k].name):=by rw [OX];rfl
 rw [SK (l.map bW) k hk,hg,<- Bool.and_assoc (mM _),W9,A_ h,V7];simp only;cases Il (wK (l.map bW) k) l[k].id <;> cases nameB l[k].name <;> cases f l[k] <;> cases S.contains l[k].name <;> simp
theorem zHv {p:Prop} (h:p:=by
 have ED:(p == m.name)=false:=by simpa using hps
 have Me:Hid ((((l.map bW).map Prod.snd).take (q+1)).contains m.name=false):=by show _=_;rw [hsu,hnc,ED];rfl
 clear hps hsu hit hnc;have iD:=M.out.e1;go_upto_region 13 with fail;go_quiet (fail)
 go_wp2_with fail;go_roundw
 case rel => exact ⟨q+1,by omega,by go_num,Me.out,M.out.drewN _,below_drewN hb _⟩
 case measure => simp [intOf];omega):p:=h
theorem zIo {p:Prop} (h:p:=by
 show _=_;unfold jL;rw [yY.out,MB.out,List.map_take];have:(((l.map bW).map Prod.snd).take k).contains m.name=true:=by rw [<- hps];exact hit
 rw [this];simp):p:=h
theorem zBq {p:Prop} (h:p:=by
 obtain ⟨gM,hgM⟩ : ∃ g,g=g3:=⟨_,rfl⟩
 subst hgM;go_wp2_with fail;go_loopw [8] (fun j ws => ∃ q:Nat,q<=k/\j = .int .i64 q/\(((l.map bW).map Prod.snd).take q).contains m.name=false/\Has ws gM 76 #[.int .i64 m.id,.string ⟨m.name.toArray⟩,.int .i64 m.ty,.bool m.akb,.bool m.eG,.int .i64 m.dflt.kind,.bool m.dflt.bool,.int .i64 m.dflt.num,.string ⟨m.dflt.str.toArray⟩,.int .i64 m.dflt.id,.slice D1 m.dflt.keys.length d1,.slice D2 m.dflt.items.length d2,.slice D3 m.dflt.rest.length d3]/\Below w.heap.size w ws) (fun j _ => k - (intOf j).toNat)
 case atStart => exact ⟨0,by omega,rfl,rfl,EF.out,HB0.out⟩
 case round =>
  clear M EF HB0;obtain ⟨q,hq,rfl,hnc,M,hb⟩:=hrel;replace M:=hiQ M;by_cases hqk:q < k
  .
   have tV:q < l.length:=by omega
   obtain ⟨ek,ei,er,MC,-⟩:=Ez.out q tV;have y2:=((hb).cell (p:=⟨ba,_,none⟩) hb1).trans MC.2.1;have hsu:=AY ((l.map bW).map Prod.snd) q (by simpa using tV) m.name;have hit:=I5 ((l.map bW).map Prod.snd) q k hqk (by simpa using hk);rw [OX,OX] at hsu hit;have aar:(q:Int) < k:=by omega
   have aas:(q:Int) < l.length:=by omega
   simp only [bW] at hsu hit;generalize l[q].name=p at *;clear MC;by_cases hps:p=m.name
   .
    have ED:(p == m.name)=true:=by simp [hps]
    have Hno:Hid (jL true l=false):=by
     exact zIo
    clear hps hsu hit hnc;have iD:=M.out.e1;go_upto_region 13 with fail;exact zIn
   exact zHv
  obtain rfl:q=k:=by omega
  have jB:Hid ((l.all (jf (!true)) && nO (l.map bW) none [])=((l.drop (q+1)).all (jf (!true)) && nO ((l.map bW).drop (q+1)) (nD (l.map bW) (q+1)) (((l.map bW).take (q+1)).map Prod.snd))):=by
   show _=_;rw [yY.out,MB.out,List.map_take,hnc,Xb.out,<- Xc.out,List.map_take];simp
  clear hnc;have iU:=M.out.e0;go_wp2_with fail;go_roundw
  case rel => exact ⟨q+1,by omega,by go_num,by rw [HZ.out],jB.out,hb⟩
  case measure => simp [intOf];omega):p:=h
theorem zFf {p:Prop} (h:p:=by
 have hnil:=yS hz0;subst hnil;clear h1;go_enter Tryz.func98,Tryz.ntmps98
 go_wp2
 refine wp_loop_rounds 1 ?_;rw [rounds_succ];go_wp2
 go_ret;exact ⟨rfl,g_ _ _⟩):p:=h
theorem zFn {p:Prop} (h:p:=by
 clear hid;go_wp2_with fail
 all_goals
  go_ret;exact ⟨au (by rw [Hs.out];first | rfl | (simp;done) | (rw [Bool.eq_iff_iff];simp;omega) | (simp_all;done) | (simp_all;omega)),hb⟩):p:=h
theorem zHl {p:Prop} (h:p:=by
 obtain ⟨-,-,-,mQ,kK,qU,qV,qW,qX,qY,oK,oL,oM⟩:=M.out.c13;go_wp2_with fail;clear mQ kK qU qV qW qX qY oK oL oM;((with_reducible refine (HSV.out _ (Oo.out.on hb)).mono ?_);rintro e nM ⟨rfl,aY⟩);replace M:=b1 M aY;replace hb:=dT hb aY;clear aY;cases hbl:iK m.dflt jm with
 | true =>
  have MB:Hid (jf (!true) m=true):=by show _=_;unfold jf;rw [hcr,hhd,hbl];rfl
  clear hbl;have EF:=hiQ M.out;have HB0:=hiQ hb;exact zBq
 | false =>
  have Hm:jf (!true) m=false:=by unfold jf;rw [hcr,hhd,hbl];rfl
  have Hno:Hid (jL true l=false):=by show _=_;unfold jL;rw [yY.out,Hm];simp
  clear hbl Hm;exact zCq):p:=h
theorem PX (l:List Mem) (va:Value) (w:World) (hl:l.length<=140737488351232) (h1:rW w w.heap.size va l) :
  Calls Tryz.prog 98 #[va,.bool true] w (RT w (.bool (jL true l))):=by
 obtain ⟨A,c,rfl,hca⟩:=h1.form;by_cases hz0:l.length=0
 . exact zFf
 obtain ⟨ba,o1,rfl,hb1,hel⟩:=h1.elem (by omega);have Ez:=hiQ hel;clear h1 hel;go_enter Tryz.func98,Tryz.ntmps98
 go_wp2_with fail;go_loopw [5,6] (fun b i wr => ∃ k:Nat,k<=l.length/\i = .int .i64 k/\b = .int .i64 (wK (l.map bW) k)/\(l.all (jf (!true)) && nO (l.map bW) none [])=((l.drop k).all (jf (!true)) && nO ((l.map bW).drop k) (nD (l.map bW) k) (((l.map bW).take k).map Prod.snd))/\Below w.heap.size w wr) (fun _ i _ => l.length - (intOf i).toNat)
 case atStart => exact ⟨0,by omega,rfl,rfl,by simp [nD],g_ _ _⟩
 case round =>
  obtain ⟨k,hk,rfl,rfl,hid,hb⟩:=hrel;by_cases hlt:k < l.length
  .
   obtain ⟨dk,di,dr,hcells,hma⟩:=Ez.out k hlt;have hlk:k < (l.map bW).length:=by simpa using hlt
   have hgk:(l.map bW)[k]=(l[k].id,l[k].name):=by rw [OX];rfl
   rw [YZ l k hlt] at hid;have HZ:Hid (wK (l.map bW) (k+1)=l[k].id):=by show _=_;rw [JG _ k hlk,hgk]
   have Xb:Hid (nD (l.map bW) (k+1)=some l[k].id):=by show _=_;rw [tZ _ k hlk,hgk]
   have Xc:Hid (((l.map bW).take k).map Prod.snd ++ [l[k].name]=((l.map bW).take (k+1)).map Prod.snd):=by have h:=ao5 (l.map bW) k hlk;rw [hgk] at h;exact h
   clear hgk hlk;generalize l[k]=m at *;obtain ⟨D1,d1,D2,d2,D3,d3,rfl,rfl,rfl,-,-,-⟩:=hma.dflt.forms;have Oo:=hiQ hma.dflt;have hsv:∀ W,ValAt W W.heap.size m.dflt (.slice D1 m.dflt.keys.length d1) (.slice D2 m.dflt.items.length d2) (.slice D3 m.dflt.rest.length d3)->Calls Tryz.prog 29 #[aS m.dflt (.slice D1 m.dflt.keys.length d1) (.slice D2 m.dflt.items.length d2) (.slice D3 m.dflt.rest.length d3),.agg #[.int .i64 0,.bool false,.int .i64 0,.string ⟨#[]⟩,.int .i64 0,.slice none 0 0,.slice none 0 0,.slice none 0 0]] W fun e w' => e = .returned (.bool (iK m.dflt jm))/\Below W.heap.size W w' :=
    fun W h => BI (nodes m.dflt+1) m.dflt jm _ _ _ (.slice none 0 0) (.slice none 0 0) (.slice none 0 0) W (by omega) h (Py _ _)
   have HSV:=hiQ hsv;obtain ⟨y0,y1,y2,y3,y4,y5,y6,y7,y8,y9,GN,GR,GU⟩:=hcells;have x0:=(hb.cell (p:=⟨ba,_,none⟩) hb1).trans y0;have x1:=(hb.cell (p:=⟨ba,_,none⟩) hb1).trans y1;have x2:=(hb.cell (p:=⟨ba,_,none⟩) hb1).trans y2;have x3:=(hb.cell (p:=⟨ba,_,none⟩) hb1).trans y3;have x4:=(hb.cell (p:=⟨ba,_,none⟩) hb1).trans y4;have x5:=(hb.cell (p:=⟨ba,_,none⟩) hb1).trans y5;have x6:=(hb.cell (p:=⟨ba,_,none⟩) hb1).trans y6;have x7:=(hb.cell (p:=⟨ba,_,none⟩) hb1).trans y7;have x8:=(hb.cell (p:=⟨ba,_,none⟩) hb1).trans y8;have x9:=(hb.cell (p:=⟨ba,_,none⟩) hb1).trans y9;have x10:=(hb.cell (p:=⟨ba,_,none⟩) hb1).trans GN;have x11:=(hb.cell (p:=⟨ba,_,none⟩) hb1).trans GR;have x12:=(hb.cell (p:=⟨ba,_,none⟩) hb1).trans GU;clear y0 y1 y2 y3 y4 y5 y6 y7 y8 y9 GN GR GU hma hsv;have hi1:(k:Int) < l.length:=by omega
   have xX:=fun W => PW (wK (l.map bW) k) m.id W;have hname:=fun W => D5 m.name W;generalize wK (l.map bW) k=z at *;go_upto_region 6 with fail;refine aO (fun wd2 hb1 M => ?_);have hl4:=hb.size;replace hb:=dT hb hb1;clear hb1;generalize wr.heap.size=g3 at *;clear x0 x1 x2 x3 x4 x5 x6 x7 x8 x9 x10 x11 x12;have iU:=M.out.e0;have iD:=M.out.e1;cases hia:Il z m.id with
   | false =>
    rw [hia] at xX hid;have qN:=hiQ xX;have yY:=hiQ hid;clear hid xX hia hname;go_wp2_with fail;clear iU iD;((with_reducible refine (qN.out _).mono ?_);rintro e fG ⟨rfl,rfl⟩);have Hno:Hid (jL true l=false):=by show _=_;unfold jL;rw [yY.out];simp
    exact zCq
   | true =>
    rw [hia,CX] at hid;rw [hia] at xX;have qN:=hiQ xX;clear xX hia;cases hn:nameB m.name with
    | false =>
     rw [hn] at hname hid;have HN:=hiQ hname;have yY:=hiQ hid;clear hid hname hn;go_wp2_with fail;clear iU iD;((with_reducible refine (qN.out _).mono ?_);rintro e fG ⟨rfl,rfl⟩);have iD:=M.out.e1;go_wp2_with fail;clear iD;((with_reducible refine (HN.out _).mono ?_);rintro e jC ⟨rfl,rfl⟩);have Hno:Hid (jL true l=false):=by show _=_;unfold jL;rw [yY.out];simp
     exact zCq
    | true =>
     rw [hn,CX] at hid;rw [hn] at hname;have HN:=hiQ hname;have yY:=hiQ hid;clear hid hname hn;go_wp2_with fail;clear iU iD;((with_reducible refine (qN.out _).mono ?_);rintro e fG ⟨rfl,rfl⟩);have iD:=M.out.e1;go_wp2_with fail;clear iD;((with_reducible refine (HN.out _).mono ?_);rintro e jC ⟨rfl,rfl⟩);have hcr:m.akb=true\/m.akb=false:=by cases m.akb <;> simp
     have hhd:m.eG=true\/m.eG=false:=by cases m.eG <;> simp
     rcases hcr with hcr | hcr
     .
      rcases hhd with hhd | hhd
      .
       skip
       have Hm:jf (!true) m=false:=by unfold jf;rw [hcr,hhd];rfl
       have PY:Hid ((l.all (jf (!true)) && nO (l.map bW) none [])=false):=by show _=_;rw [yY.out,Hm];rfl
       have Hno:Hid (jL true l=false):=by show _=_;unfold jL;rw [PY.out];rfl
       clear Hm;have mQ:=M.out.e3;have kK:=M.out.e4;exact zCq
      skip
      exact zHl
     rcases hhd with hhd | hhd
     .
      skip
      have MB:Hid (jf (!true) m=true):=by show _=_;unfold jf;rw [hcr,hhd];rfl
      have mQ:=M.out.e3;have kK:=M.out.e4;go_upto_region 10 with fail;have EF:=hiQ M.out;have HB0:=hiQ hb;clear mQ kK;exact zBq
     skip
     exact zHl
  obtain rfl:k=l.length:=by omega
  rw [G_ (b_ _),G_ (by simp),nO] at hid;have Hs:Hid (jL true l=(decide (l.length<=16) && (true || decide (1<=l.length)))):=by
   show _=_;unfold jL;rw [hid];rfl
  exact zFn
theorem zHo {p:Prop} (h:p:=by
 have Hm:jf (!false) m=false:=by unfold jf;rw [hcr,hhd];rfl
 have PY:Hid ((l.all (jf (!false)) && nO (l.map bW) none [])=false):=by show _=_;rw [yY.out,Hm];rfl
 have Hno:Hid (jL false l=false):=by show _=_;unfold jL;rw [PY.out];rfl
 clear Hm;have mQ:=M.out.e3;have kK:=M.out.e4;exact zCq):p:=h
theorem NZ (l:List Mem) (va:Value) (w:World) (hl:l.length<=140737488351232) (h1:rW w w.heap.size va l) :
  Calls Tryz.prog 98 #[va,.bool false] w (RT w (.bool (jL false l))):=by
 obtain ⟨A,c,rfl,hca⟩:=h1.form;by_cases hz0:l.length=0
 . exact zFf
 obtain ⟨ba,o1,rfl,hb1,hel⟩:=h1.elem (by omega);have Ez:=hiQ hel;clear h1 hel;go_enter Tryz.func98,Tryz.ntmps98
 go_wp2_with fail;go_loopw [5,6] (fun b i wr => ∃ k:Nat,k<=l.length/\i = .int .i64 k/\b = .int .i64 (wK (l.map bW) k)/\(l.all (jf (!false)) && nO (l.map bW) none [])=((l.drop k).all (jf (!false)) && nO ((l.map bW).drop k) (nD (l.map bW) k) (((l.map bW).take k).map Prod.snd))/\Below w.heap.size w wr) (fun _ i _ => l.length - (intOf i).toNat)
 case atStart => exact ⟨0,by omega,rfl,rfl,by simp [nD],g_ _ _⟩
 case round =>
  obtain ⟨k,hk,rfl,rfl,hid,hb⟩:=hrel;by_cases hlt:k < l.length
  .
   obtain ⟨dk,di,dr,hcells,hma⟩:=Ez.out k hlt;have hlk:k < (l.map bW).length:=by simpa using hlt
   have hgk:(l.map bW)[k]=(l[k].id,l[k].name):=by rw [OX];rfl
   rw [YZ l k hlt] at hid;have HZ:Hid (wK (l.map bW) (k+1)=l[k].id):=by show _=_;rw [JG _ k hlk,hgk]
   have Xb:Hid (nD (l.map bW) (k+1)=some l[k].id):=by show _=_;rw [tZ _ k hlk,hgk]
   have Xc:Hid (((l.map bW).take k).map Prod.snd ++ [l[k].name]=((l.map bW).take (k+1)).map Prod.snd):=by have h:=ao5 (l.map bW) k hlk;rw [hgk] at h;exact h
   clear hgk hlk;generalize l[k]=m at *;obtain ⟨D1,d1,D2,d2,D3,d3,rfl,rfl,rfl,-,-,-⟩:=hma.dflt.forms;have Oo:=hiQ hma.dflt;have hsv:∀ W,ValAt W W.heap.size m.dflt (.slice D1 m.dflt.keys.length d1) (.slice D2 m.dflt.items.length d2) (.slice D3 m.dflt.rest.length d3)->Calls Tryz.prog 29 #[aS m.dflt (.slice D1 m.dflt.keys.length d1) (.slice D2 m.dflt.items.length d2) (.slice D3 m.dflt.rest.length d3),.agg #[.int .i64 0,.bool false,.int .i64 0,.string ⟨#[]⟩,.int .i64 0,.slice none 0 0,.slice none 0 0,.slice none 0 0]] W fun e w' => e = .returned (.bool (iK m.dflt jm))/\Below W.heap.size W w' :=
    fun W h => BI (nodes m.dflt+1) m.dflt jm _ _ _ (.slice none 0 0) (.slice none 0 0) (.slice none 0 0) W (by omega) h (Py _ _)
   have HSV:=hiQ hsv;obtain ⟨y0,y1,y2,y3,y4,y5,y6,y7,y8,y9,GN,GR,GU⟩:=hcells;have x0:=(hb.cell (p:=⟨ba,_,none⟩) hb1).trans y0;have x1:=(hb.cell (p:=⟨ba,_,none⟩) hb1).trans y1;have x2:=(hb.cell (p:=⟨ba,_,none⟩) hb1).trans y2;have x3:=(hb.cell (p:=⟨ba,_,none⟩) hb1).trans y3;have x4:=(hb.cell (p:=⟨ba,_,none⟩) hb1).trans y4;have x5:=(hb.cell (p:=⟨ba,_,none⟩) hb1).trans y5;have x6:=(hb.cell (p:=⟨ba,_,none⟩) hb1).trans y6;have x7:=(hb.cell (p:=⟨ba,_,none⟩) hb1).trans y7;have x8:=(hb.cell (p:=⟨ba,_,none⟩) hb1).trans y8;have x9:=(hb.cell (p:=⟨ba,_,none⟩) hb1).trans y9;have x10:=(hb.cell (p:=⟨ba,_,none⟩) hb1).trans GN;have x11:=(hb.cell (p:=⟨ba,_,none⟩) hb1).trans GR;have x12:=(hb.cell (p:=⟨ba,_,none⟩) hb1).trans GU;clear y0 y1 y2 y3 y4 y5 y6 y7 y8 y9 GN GR GU hma hsv;have hi1:(k:Int) < l.length:=by omega
   have xX:=fun W => PW (wK (l.map bW) k) m.id W;have hname:=fun W => D5 m.name W;generalize wK (l.map bW) k=z at *;go_upto_region 6 with fail;refine aO (fun wd2 hb1 M => ?_);have hl4:=hb.size;replace hb:=dT hb hb1;clear hb1;generalize wr.heap.size=g3 at *;clear x0 x1 x2 x3 x4 x5 x6 x7 x8 x9 x10 x11 x12;have iU:=M.out.e0;have iD:=M.out.e1;cases hia:Il z m.id with
   | false =>
    rw [hia] at xX hid;have qN:=hiQ xX;have yY:=hiQ hid;clear hid xX hia hname;go_wp2_with fail;clear iU iD;((with_reducible refine (qN.out _).mono ?_);rintro e fG ⟨rfl,rfl⟩);have Hno:Hid (jL false l=false):=by show _=_;unfold jL;rw [yY.out];simp
    exact zCq
   | true =>
    rw [hia,CX] at hid;rw [hia] at xX;have qN:=hiQ xX;clear xX hia;cases hn:nameB m.name with
    | false =>
     rw [hn] at hname hid;have HN:=hiQ hname;have yY:=hiQ hid;clear hid hname hn;go_wp2_with fail;clear iU iD;((with_reducible refine (qN.out _).mono ?_);rintro e fG ⟨rfl,rfl⟩);have iD:=M.out.e1;go_wp2_with fail;clear iD;((with_reducible refine (HN.out _).mono ?_);rintro e jC ⟨rfl,rfl⟩);have Hno:Hid (jL false l=false):=by show _=_;unfold jL;rw [yY.out];simp
     exact zCq
    | true =>
     rw [hn,CX] at hid;rw [hn] at hname;have HN:=hiQ hname;have yY:=hiQ hid;clear hid hname hn;go_wp2_with fail;clear iU iD;((with_reducible refine (qN.out _).mono ?_);rintro e fG ⟨rfl,rfl⟩);have iD:=M.out.e1;go_wp2_with fail;clear iD;((with_reducible refine (HN.out _).mono ?_);rintro e jC ⟨rfl,rfl⟩);have hcr:m.akb=true\/m.akb=false:=by cases m.akb <;> simp
     have hhd:m.eG=true\/m.eG=false:=by cases m.eG <;> simp
     rcases hcr with hcr | hcr
     .
      rcases hhd with hhd | hhd
      .
       skip
       exact zHo
      skip
      exact zHo
     rcases hhd with hhd | hhd
     .
      skip
      exact zHo
     skip
     obtain ⟨-,-,-,mQ,kK,qU,qV,qW,qX,qY,oK,oL,oM⟩:=M.out.c13;go_wp2_with fail;clear mQ kK qU qV qW qX qY oK oL oM;((with_reducible refine (HSV.out _ (Oo.out.on hb)).mono ?_);rintro e nM ⟨rfl,aY⟩);replace M:=b1 M aY;replace hb:=dT hb aY;clear aY;cases hbl:iK m.dflt jm with
     | true =>
      have MB:Hid (jf (!false) m=true):=by show _=_;unfold jf;rw [hcr,hhd,hbl];rfl
      clear hbl;have EF:=hiQ M.out;have HB0:=hiQ hb;obtain ⟨gM,hgM⟩ : ∃ g,g=g3:=⟨_,rfl⟩
      subst hgM;go_wp2_with fail;go_loopw [8] (fun j ws => ∃ q:Nat,q<=k/\j = .int .i64 q/\(((l.map bW).map Prod.snd).take q).contains m.name=false/\Has ws gM 76 #[.int .i64 m.id,.string ⟨m.name.toArray⟩,.int .i64 m.ty,.bool m.akb,.bool m.eG,.int .i64 m.dflt.kind,.bool m.dflt.bool,.int .i64 m.dflt.num,.string ⟨m.dflt.str.toArray⟩,.int .i64 m.dflt.id,.slice D1 m.dflt.keys.length d1,.slice D2 m.dflt.items.length d2,.slice D3 m.dflt.rest.length d3]/\Below w.heap.size w ws) (fun j _ => k - (intOf j).toNat)
      case atStart => exact ⟨0,by omega,rfl,rfl,EF.out,HB0.out⟩
      case round =>
       clear M EF HB0;obtain ⟨q,hq,rfl,hnc,M,hb⟩:=hrel;replace M:=hiQ M;by_cases hqk:q < k
       .
        have tV:q < l.length:=by omega
        obtain ⟨ek,ei,er,MC,-⟩:=Ez.out q tV;have y2:=((hb).cell (p:=⟨ba,_,none⟩) hb1).trans MC.2.1;have hsu:=AY ((l.map bW).map Prod.snd) q (by simpa using tV) m.name;have hit:=I5 ((l.map bW).map Prod.snd) q k hqk (by simpa using hk);rw [OX,OX] at hsu hit;have aar:(q:Int) < k:=by omega
        have aas:(q:Int) < l.length:=by omega
        simp only [bW] at hsu hit;generalize l[q].name=p at *;clear MC;by_cases hps:p=m.name
        .
         have ED:(p == m.name)=true:=by simp [hps]
         have Hno:Hid (jL false l=false):=by
          exact zIo
         clear hps hsu hit hnc;have iD:=M.out.e1;go_upto_region 13 with fail;exact zIn
        exact zHv
       obtain rfl:q=k:=by omega
       have jB:Hid ((l.all (jf (!false)) && nO (l.map bW) none [])=((l.drop (q+1)).all (jf (!false)) && nO ((l.map bW).drop (q+1)) (nD (l.map bW) (q+1)) (((l.map bW).take (q+1)).map Prod.snd))):=by
        show _=_;rw [yY.out,MB.out,List.map_take,hnc,Xb.out,<- Xc.out,List.map_take];simp
       clear hnc;have iU:=M.out.e0;exact zDs
     | false =>
      have Hm:jf (!false) m=false:=by unfold jf;rw [hcr,hhd,hbl];rfl
      have Hno:Hid (jL false l=false):=by show _=_;unfold jL;rw [yY.out,Hm];simp
      clear hbl Hm;exact zCq
  obtain rfl:k=l.length:=by omega
  rw [G_ (b_ _),G_ (by simp),nO] at hid;have Hs:Hid (jL false l=(decide (l.length<=16) && (false || decide (1<=l.length)))):=by
   show _=_;unfold jL;rw [hid];rfl
  exact zFn
abbrev ajl (m:Mem) (vk vi vr:Value):Value:=.agg #[.int .i64 m.id,.string ⟨m.name.toArray⟩,.int .i64 m.ty,.bool m.akb,.bool m.eG,.int .i64 m.dflt.kind,.bool m.dflt.bool,.int .i64 m.dflt.num,.string ⟨m.dflt.str.toArray⟩,.int .i64 m.dflt.id,vk,vi,vr]
def xq (x y:Mem):Bool:=decide (x.id=y.id/\x.name=y.name/\x.ty=y.ty/\x.akb=y.akb/\x.eG=y.eG) && iK x.dflt y.dflt
theorem MG (x y:Mem):xq x y=true↔x=y:=by
 unfold xq;rw [j_,w_,vM];cases x;cases y;simp [and_assoc]
theorem zCv {p:Prop} (h:p:=by
 go_enter Tryz.func117,Tryz.ntmps117
 go_upto_region 1 with fail;refine jg (fun wd2 hb1 X Y => ?_);have hw3:=hb1;clear hb1;obtain ⟨aK,bJ,bY,bZ,dL,-,-,-,-,-,-,-,-⟩:=X.out.c13;obtain ⟨kT,kU,kV,kW,kX,-,-,-,-,-,-,-,-⟩:=Y.out.c13;go_wp2_with fail;go_ret;exact ⟨au ny.out.symm,hw3⟩):p:=h
theorem acQ (x y:Mem) (vk vi vr uk ui ur:Value) (w:World) (hx:ValAt w w.heap.size x.dflt vk vi vr) (hy:ValAt w w.heap.size y.dflt uk ui ur) :
  Calls Tryz.prog 117 #[ajl x vk vi vr,ajl y uk ui ur] w (RT w (.bool (xq x y))):=by
 obtain ⟨D1,dx1,D2,dx2,D3,dx3,rfl,rfl,rfl,-,-,-⟩:=hx.forms;obtain ⟨E1,ex1,E2,ex2,E3,ex3,rfl,rfl,rfl,-,-,-⟩:=hy.forms;have HX:=hiQ hx;have HY:=hiQ hy;clear hx hy;by_cases e0:x.id=y.id
 .
  have t0:(x.id == y.id)=true:=by simp [e0]
  by_cases e1:x.name=y.name
  .
   have t1:(x.name == y.name)=true:=by simp [e1]
   by_cases e2:x.ty=y.ty
   .
    have t2:(x.ty == y.ty)=true:=by simp [e2]
    by_cases e3:x.akb=y.akb
    .
     have t3:(x.akb == y.akb)=true:=by simp [e3]
     by_cases e4:x.eG=y.eG
     .
      have t4:(x.eG == y.eG)=true:=by simp [e4]
      have ny:Hid (xq x y=iK x.dflt y.dflt):=by show _=_;unfold xq;rw [n_ ⟨e0,e1,e2,e3,e4⟩];rfl
      clear e0 e1 e2 e3 e4;go_enter Tryz.func117,Tryz.ntmps117
      go_upto_region 1 with fail;refine jg (fun wd2 hb1 X Y => ?_);have hw3:=hb1;clear hb1;obtain ⟨aK,bJ,bY,bZ,dL,eX,bU,dD,dM,dU,akp,akq,akr⟩:=X.out.c13;obtain ⟨kT,kU,kV,kW,kX,mD,lJ,mF,wS,wU,aks,akt,aku⟩:=Y.out.c13;go_wp2_with fail;clear aK bJ bY bZ dL eX bU dD dM dU akp akq akr kT kU kV kW kX mD lJ mF wS wU aks akt aku;((with_reducible refine (BI (nodes x.dflt+1) x.dflt y.dflt _ _ _ _ _ _ _ (by omega) (HX.out.on hw3) (HY.out.on hw3)).mono ?_);rintro e wd4 ⟨rfl,hb5⟩);obtain ⟨X,Y⟩:=b2 X Y hb5;replace hw3:=dT hw3 hb5;clear hb5;exact zDd
     have t4:(x.eG == y.eG)=false:=by simpa using e4
     have ny:Hid (xq x y=false):=by show _=_;unfold xq;rw [f_ (fun h => e4 (by simp [h]))];rfl
     clear e0 e1 e2 e3 e4;exact zCv
    have t3:(x.akb == y.akb)=false:=by simpa using e3
    have ny:Hid (xq x y=false):=by show _=_;unfold xq;rw [f_ (fun h => e3 (by simp [h]))];rfl
    clear e0 e1 e2 e3;exact zCv
   have t2:(x.ty == y.ty)=false:=by simpa using e2
   have ny:Hid (xq x y=false):=by show _=_;unfold xq;rw [f_ (fun h => e2 (by simp [h]))];rfl
   clear e0 e1 e2;exact zCv
  have t1:(x.name == y.name)=false:=by simpa using e1
  have ny:Hid (xq x y=false):=by show _=_;unfold xq;rw [f_ (fun h => e1 (by simp [h]))];rfl
  clear e0 e1;exact zCv
 have t0:(x.id == y.id)=false:=by simpa using e0
 have ny:Hid (xq x y=false):=by show _=_;unfold xq;rw [f_ (fun h => e0 (by simp [h]))];rfl
 clear e0;exact zCv
