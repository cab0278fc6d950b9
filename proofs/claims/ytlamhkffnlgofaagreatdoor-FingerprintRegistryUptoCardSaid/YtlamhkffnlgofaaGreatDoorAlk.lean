/- What canon.alike computes, without names. No condition. -/
import Derived.Test.YtlamhkffnlgofaaGreatDoorCUses
set_option maxHeartbeats 3200000
set_option maxRecDepth 100000
namespace Go.Proofs.YtlamhkffnlgofaaGreatDoor
open Go.ChangeShapes Go.WideShapes Go.ChangeAt Go.RowKit
def eqL {α:Type} (f:α→α→Bool) (a b:List α):Bool:=decide (a.length=b.length) && (a.zip b).all fun p => f p.1 p.2
def ajI {α:Type} (f:α→α→Bool) (a b:List α) (k:Nat):Prop := ∀ (j:Nat) x y,j < k→a[j]?=some x→b[j]?=some y→f x y=true
section
variable {α:Type} {f:α→α→Bool} {a b:List α} {k:Nat}
theorem ajI.zero:ajI f a b 0:=fun j _ _ h => by omega
theorem ajI.succ (h:ajI f a b k) (h1:k < a.length) (h2:k < b.length) (hf:f a[k] b[k]=true):ajI f a b (k+1):=by
 intro j x y hj hx hy;rcases Nat.lt_or_ge j k with h3 | h3
 · exact h j x y h3 hx hy
 obtain rfl:j=k:=by omega
 rw [List.getElem?_eq_getElem h1] at hx;rw [List.getElem?_eq_getElem h2] at hy;injection hx with hx;injection hy with hy;subst hx;subst hy;exact hf
theorem atZ:eqL f a b=true↔a.length=b.length∧ajI f a b a.length:=by
 unfold eqL;rw [Bool.and_eq_true,decide_eq_true_eq,List.all_eq_true]
 constructor
 ·
  rintro ⟨h1,h2⟩;refine ⟨h1,fun j x y _ hx hy => ?_⟩;have h3:(x,y) ∈ a.zip b:=by
   refine List.mem_of_getElem? (i:=j) ?_;rw [List.getElem?_zip_eq_some];exact ⟨hx,hy⟩
  exact h2 _ h3
 rintro ⟨h1,h2⟩;refine ⟨h1,fun ⟨x,y⟩ hm => ?_⟩;obtain ⟨j,hj⟩:=List.getElem?_of_mem hm;rw [List.getElem?_zip_eq_some] at hj;exact h2 j x y (List.getElem?_eq_some_iff.1 hj.1).1 hj.1 hj.2
theorem aoR (hl:a.length=b.length) (h:ajI f a b a.length):eqL f a b=true:=atZ.2 ⟨hl,h⟩
theorem aq4 (h1:k < a.length) (h2:k < b.length) (hf:f a[k] b[k]=false):eqL f a b=false:=by
 cases hq:eqL f a b with
 | false => rfl
 | true =>
  have h3:=(atZ.1 hq).2 k _ _ h1 (List.getElem?_eq_getElem h1) (List.getElem?_eq_getElem h2);rw [hf] at h3;cases h3
theorem aq5 (h:a.length≠b.length):eqL f a b=false:=by unfold eqL;rw [decide_eq_false h];rfl
end
def akL (a b:Raw):Bool:=a.1 == b.1
def Ar (m n:Mem):Bool:=(m.id == n.id) && ((m.akb == n.akb) && ((m.eG == n.eG) && iK m.dflt n.dflt))
def alx (x y:ay):Bool:=decide (x.kind=y.kind∧x.low=y.low∧x.high=y.high∧x.max=y.max∧x.opn=y.opn)
def nT (x y:ay):Bool:=alx x y && (eqL akL x.syms y.syms && eqL Ar x.ah y.ah)
theorem avb {α β:Type} (g:α→β) (f:α→α→Bool) (hf:∀ x y,f x y=true↔g x=g y):∀ (a b:List α),eqL f a b=true↔a.map g=b.map g:=by
 intro a b;rw [atZ]
 constructor
 ·
  rintro ⟨h1,h2⟩;refine List.ext_getElem (by simpa using h1) fun j h3 h4 => ?_;simp only [List.length_map] at h3 h4;rw [List.getElem_map,List.getElem_map];exact (hf _ _).1 (h2 j _ _ h3 (List.getElem?_eq_getElem h3) (List.getElem?_eq_getElem h4))
 intro h;have hl:a.length=b.length:=by have:=congrArg List.length h;simpa using this
 refine ⟨hl,fun j x y _ hx hy => (hf _ _).2 ?_⟩;have h1:(a.map g)[j]?=some (g x):=by rw [List.getElem?_map,hx];rfl
 have h2:(b.map g)[j]?=some (g y):=by rw [List.getElem?_map,hy];rfl
 rw [h,h2] at h1;injection h1 with h1;exact h1.symm
theorem azF (m n:Mem):Ar m n=true↔aoW m=aoW n:=by
 unfold Ar aoW;simp only [Bool.and_eq_true,beq_iff_eq,vM,Prod.mk.injEq]
theorem ata (x y:ay):nT x y=true↔Alike x y:=by
 unfold nT alx;rw [Bool.and_eq_true,Bool.and_eq_true,decide_eq_true_eq,avb Prod.fst akL (fun a b => by unfold akL;rw [beq_iff_eq]),avb aoW Ar azF];exact ⟨fun ⟨⟨h1,h2,h3,h4,h5⟩,h6,h7⟩ => ⟨h1,h2,h3,h4,h5,h6,h7⟩,fun ⟨h1,h2,h3,h4,h5,h6,h7⟩ => ⟨⟨h1,h2,h3,h4,h5⟩,h6,h7⟩⟩
theorem zFx {p:Prop} (h:p:=by
 clear he;go_enter Tryz.func158,Tryz.ntmps158
 go_wp2
 go_ret;exact ⟨au hs.out.symm,((Below.refl _ _).alloc (Nat.le_refl _) _).alloc (by simp) _⟩):p:=h
theorem aBr (a b:Raw) (p:Nat) (w:World) (hp:w.cell? ⟨p,0,none⟩=some (.bool false)) (hlt:p < w.heap.size) :
  Calls Tryz.prog 158 #[.agg #[.int .i64 a.1,.string ⟨a.2.toArray⟩],.agg #[.int .i64 b.1,.string ⟨b.2.toArray⟩],.pointer (some ⟨p,0,none⟩)] w (RTq w (.bool (akL a b))):=by
 have hz:∀ o1 o2,((w.alloc o1).alloc o2).cell? ⟨p,0,none⟩=some (.bool false):=fun o1 o2 => ((((Below.refl w.heap.size w).alloc (Nat.le_refl _) o1).alloc (show w.heap.size≤(w.alloc o1).heap.size by simp) o2).cell (p:=⟨p,0,none⟩) hlt).trans hp;by_cases he:a.1=b.1
 ·
  have ht:(a.1 == b.1)=true:=by simp [he]
  have hs:Hid (akL a b=true):=ht;exact zFx
 have ht:(a.1 == b.1)=false:=by simpa using he
 have hs:Hid (akL a b=false):=ht;exact zFx
theorem zCw {p:Prop} (h:p:=by
 clear he;go_enter Tryz.func159,Tryz.ntmps159
 go_upto_region 1 with fail;refine jg (fun wd2 hb1 X Y => ?_);have hw3:=hb1;clear hb1;obtain ⟨aK,bJ,bY,bZ,dL,eX,bU,dD,dM,dU,akp,akq,akr⟩:=X.out.c13;obtain ⟨kT,kU,kV,kW,kX,mD,lJ,mF,wS,wU,aks,akt,aku⟩:=Y.out.c13;go_wp2_with fail;go_ret;exact ⟨au hs.out.symm,hw3⟩):p:=h
theorem zDj {p:Prop} (h:p:=by
 go_wp2_with fail;go_ret;exact ⟨au hs.out.symm,hw3⟩):p:=h
theorem aBs (m n:Mem) (vk vi vr uk ui ur:Value) (p:Nat) (w:World) (hp:w.cell? ⟨p,0,none⟩=some (.bool false)) (hlt:p < w.heap.size) (hm:ValAt w w.heap.size m.dflt vk vi vr) (hn:ValAt w w.heap.size n.dflt uk ui ur) :
  Calls Tryz.prog 159 #[.agg #[.int .i64 m.id,.string ⟨m.name.toArray⟩,.int .i64 m.ty,.bool m.akb,.bool m.eG,.int .i64 m.dflt.kind,.bool m.dflt.bool,.int .i64 m.dflt.num,.string ⟨m.dflt.str.toArray⟩,.int .i64 m.dflt.id,vk,vi,vr],
   .agg #[.int .i64 n.id,.string ⟨n.name.toArray⟩,.int .i64 n.ty,.bool n.akb,.bool n.eG,.int .i64 n.dflt.kind,.bool n.dflt.bool,.int .i64 n.dflt.num,.string ⟨n.dflt.str.toArray⟩,.int .i64 n.dflt.id,uk,ui,ur],.pointer (some ⟨p,0,none⟩)] w
   fun e w' => e = .returned (.bool (Ar m n))∧Below w.heap.size w w':=by
 obtain ⟨A1,n1,A2,n2,A3,n3,rfl,rfl,rfl,-,-,-⟩:=hm.forms;obtain ⟨B1,k1,B2,k2,B3,k3,rfl,rfl,rfl,-,-,-⟩:=hn.forms;have Hp:=hiQ hp;have HM:=hiQ hm;have HNv:=hiQ hn;clear hp hm hn;by_cases he:m.id=n.id
 ·
  have t1:(m.id == n.id)=true:=by simp [he]
  clear he;by_cases he:m.akb=n.akb
  ·
   have t2:(m.akb == n.akb)=true:=by simp [he]
   clear he;by_cases he:m.eG=n.eG
   ·
    have t3:(m.eG == n.eG)=true:=by simp [he]
    have hs:Hid (Ar m n=iK m.dflt n.dflt):=by show _=_;unfold Ar;simp [t1,t2,t3]
    clear he;go_enter Tryz.func159,Tryz.ntmps159
    go_upto_region 1 with fail;refine jg (fun wd2 hb1 X Y => ?_);have hw3:=hb1;clear hb1;obtain ⟨aK,bJ,bY,bZ,dL,eX,bU,dD,dM,dU,akp,akq,akr⟩:=X.out.c13;obtain ⟨kT,kU,kV,kW,kX,mD,lJ,mF,wS,wU,aks,akt,aku⟩:=Y.out.c13;go_wp2_with fail;clear aK bJ bY bZ dL eX bU dD dM dU akp akq akr kT kU kV kW kX mD lJ mF wS wU aks akt aku;((with_reducible refine (axn _ m.dflt n.dflt _ _ _ _ _ _ _ (Nat.lt_succ_self _) (HM.out.on hw3) (HNv.out.on hw3)).mono ?_);rintro e wd4 ⟨rfl,hb5⟩);obtain ⟨X,Y⟩:=b2 X Y hb5;replace hw3:=dT hw3 hb5;clear hb5;have hpw:=(hw3.cell (p:=⟨p,0,none⟩) hlt).trans Hp.out;cases hsv:iK m.dflt n.dflt with
    | true =>
     rw [hsv] at hs;clear hsv;exact zDj
    | false =>
     rw [hsv] at hs;clear hsv;exact zDj
   have t3:(m.eG == n.eG)=false:=by simpa using he
   have hs:Hid (Ar m n=false):=by show _=_;unfold Ar;simp [t3]
   exact zCw
  have t2:(m.akb == n.akb)=false:=by simpa using he
  have hs:Hid (Ar m n=false):=by show _=_;unfold Ar;simp [t2]
  exact zCw
 have t1:(m.id == n.id)=false:=by simpa using he
 have hs:Hid (Ar m n=false):=by show _=_;unfold Ar;simp [t1]
 exact zCw
theorem zEs {p:Prop} (h:p:=by
 have Hq:=hiQ (aoR HL.out (by rw [show xs.length=k by omega];exact Hup.out));go_wp2
 go_ret;exact ⟨au Hq.out.symm,hb⟩):p:=h
theorem zGm {p:Prop} (h:p:=by
 go_wp2
 go_ret;exact ⟨au HL.out.symm,Below.refl _ _⟩):p:=h
theorem ax5 (xs ys:List Raw) (va vb:Value) (p:Nat) (w:World) (hlx:xs.length≤140737488351232) (hly:ys.length≤140737488351232) (hx:Rd w w.heap.size 2 va xs.length (jO xs)) (hy:Rd w w.heap.size 2 vb ys.length (jO ys)) (hp:w.cell? ⟨p,0,none⟩=some (.bool false)) (hlt:p < w.heap.size) :
  Calls Tryz.prog 157 #[va,vb,.func (.func 158) #[] #[.pointer (some ⟨p,0,none⟩)]] w (RTq w (.bool (eqL akL xs ys))):=by
 obtain ⟨A,c,rfl,hc⟩:=hx.form;obtain ⟨B,d,rfl,hd⟩:=hy.form;have HX:=hiQ hx;have HY:=hiQ hy;have Hp:=hiQ hp;clear hx hy hp;by_cases hl:xs.length=ys.length
 ·
  have HL:=hiQ hl;have h1:((xs.length:Int) != (ys.length:Int))=false:=by simp [hl]
  have hl':(xs.length:Int)≤ys.length:=by omega
  clear hl;go_enter Tryz.func157,Tryz.ntmps157
  go_wp2
  go_loopw [17] (fun i wr => ∃ k:Nat,k≤xs.length∧i = .int .i64 k∧ajI akL xs ys k∧Below w.heap.size w wr) (fun i _ => xs.length - (intOf i).toNat)
  case atStart => exact ⟨0,by omega,rfl,ajI.zero,Below.refl _ _⟩
  case round =>
   obtain ⟨k,hk,rfl,hup,hb⟩:=hrel;have Hup:=hiQ hup;clear hup;by_cases hltk:k < xs.length
   ·
    have akf:k < ys.length:=by omega
    obtain ⟨b1,o1,rfl,hbb,hcell⟩:=(HX.out.below hb).at_ (by omega);obtain ⟨c0,c1⟩:=qy hcell k hltk;obtain ⟨b2,o2,rfl,SE,hcell'⟩:=(HY.out.below hb).at_ (by omega);obtain ⟨d0,d1⟩:=qy hcell' k akf;have Hs:=hiQ (fun h => ajI.succ Hup.out hltk akf h);have Hn:=hiQ (fun h => aq4 (f:=akL) hltk akf h);generalize xs[k]=x at *;generalize ys[k]=y at *;have hi1:(k:Int) < xs.length:=by omega
    have hi2:(k:Int) < ys.length:=by omega
    have hbs:=hb.size;have d0':=fun o => ((Below.refl wr.heap.size wr).alloc (Nat.le_refl _) o).cell (p:=⟨b2,o2+k*2,none⟩) (Nat.lt_of_lt_of_le SE hbs) |>.trans d0
    have d1':=fun o => ((Below.refl wr.heap.size wr).alloc (Nat.le_refl _) o).cell (p:=⟨b2,o2+k*2+1,none⟩) (Nat.lt_of_lt_of_le SE hbs) |>.trans d1
    have h2b:=Oe wr;clear hcell hcell' d0 d1;go_wp2_with fail;refine (aBr x y p _ (((hb.trans ((h2b _ _).mono hb.size)).cell (p:=⟨p,0,none⟩) hlt).trans Hp.out) (Nat.lt_of_lt_of_le hlt (hb.trans ((h2b _ _).mono hb.size)).size)).mono ?_;rintro e w2 ⟨rfl,hb2⟩;have Cm:=(hb.trans ((h2b _ _).mono hb.size)).trans (hb2.mono (hb.trans ((h2b _ _).mono hb.size)).size);clear hb2 h2b d0' d1' hb;cases hsv:akL x y with
    | true =>
     have VQ:=hiQ (Hs.out hsv);clear hsv;exact zDc
    | false =>
     have VQ:=hiQ (Hn.out hsv);clear hsv;exact zEr
   exact zEs
 have h1:((xs.length:Int) != (ys.length:Int))=true:=by rw [bne_iff_ne];omega
 have HL:=hiQ (aq5 (f:=akL) hl);clear hl;go_enter Tryz.func157,Tryz.ntmps157
 exact zGm
theorem zDu {p:Prop} (h:p:=by
 obtain ⟨h0,h1,h2,h3,h4,h5,h6,h7,h8,h9,h10,h11,h12⟩:=h;exact ⟨(hb.cell hlt).trans h0,(hb.cell hlt).trans h1,(hb.cell hlt).trans h2,(hb.cell hlt).trans h3,(hb.cell hlt).trans h4,(hb.cell hlt).trans h5,(hb.cell hlt).trans h6,(hb.cell hlt).trans h7,(hb.cell hlt).trans h8,(hb.cell hlt).trans h9,(hb.cell hlt).trans h10,(hb.cell hlt).trans h11,(hb.cell hlt).trans h12⟩):p:=h
theorem nG {w w':World} {B b o:Nat} {x:Mem} {vk vi vr:Value} (h:EU w b o x vk vi vr) (hb:Below B w w') (hlt:b < B):EU w' b o x vk vi vr:=by
 exact zDu
theorem ax6 (xs ys:List Mem) (va vb:Value) (p:Nat) (w:World) (hlx:xs.length≤140737488351232) (hly:ys.length≤140737488351232) (hx:rW w w.heap.size va xs) (hy:rW w w.heap.size vb ys) (hp:w.cell? ⟨p,0,none⟩=some (.bool false)) (hlt:p < w.heap.size) :
  Calls Tryz.prog 149 #[va,vb,.func (.func 159) #[] #[.pointer (some ⟨p,0,none⟩)]] w (RTq w (.bool (eqL Ar xs ys))):=by
 obtain ⟨A,c,rfl,hc⟩:=hx.form;obtain ⟨B,d,rfl,hd⟩:=hy.form;have HX:=hiQ hx;have HY:=hiQ hy;have Hp:=hiQ hp;clear hx hy hp;by_cases hl:xs.length=ys.length
 ·
  have HL:=hiQ hl;have h1:((xs.length:Int) != (ys.length:Int))=false:=by simp [hl]
  have hl':(xs.length:Int)≤ys.length:=by omega
  clear hl;go_enter Tryz.func149,Tryz.ntmps149
  go_wp2
  go_loopw [17] (fun i wr => ∃ k:Nat,k≤xs.length∧i = .int .i64 k∧ajI Ar xs ys k∧Below w.heap.size w wr) (fun i _ => xs.length - (intOf i).toNat)
  case atStart => exact ⟨0,by omega,rfl,ajI.zero,Below.refl _ _⟩
  case round =>
   obtain ⟨k,hk,rfl,hup,hb⟩:=hrel;have Hup:=hiQ hup;clear hup;by_cases hltk:k < xs.length
   ·
    have akf:k < ys.length:=by omega
    obtain ⟨b1,o1,rfl,hbb,hel⟩:=(HX.out.on hb).elem (by omega);obtain ⟨vk,vi,vr,hcells,hva⟩:=hel k hltk;obtain ⟨b2,o2,rfl,SE,KO⟩:=(HY.out.on hb).elem (by omega);obtain ⟨uk,ui,ur,hcells',hvb⟩:=KO k akf;have Hs:=hiQ (fun h => ajI.succ Hup.out hltk akf h);have Hn:=hiQ (fun h => aq4 (f:=Ar) hltk akf h);generalize xs[k]=x at *;generalize ys[k]=y at *;have hi1:(k:Int) < xs.length:=by omega
    have hi2:(k:Int) < ys.length:=by omega
    obtain ⟨A1,n1,A2,n2,A3,n3,rfl,rfl,rfl,-,-,-⟩:=hva.dflt.forms;obtain ⟨B1,k1,B2,k2,B3,k3,rfl,rfl,rfl,-,-,-⟩:=hvb.dflt.forms;have HVA:=hiQ hva.dflt;have HVB:=hiQ hvb.dflt;obtain ⟨c0,c1,c2,c3,c4,c5,c6,c7,c8,c9,c10,c11,c12⟩:=hcells;have HC':=nG hcells' ((Below.refl wr.heap.size wr).alloc (Nat.le_refl _) (.cells #[.int .i64 x.id,.string ⟨x.name.toArray⟩,.int .i64 x.ty,.bool x.akb,.bool x.eG,.int .i64 x.dflt.kind,.bool x.dflt.bool,.int .i64 x.dflt.num,.string ⟨x.dflt.str.toArray⟩,.int .i64 x.dflt.id,.slice A1 x.dflt.keys.length n1,.slice A2 x.dflt.items.length n2,.slice A3 x.dflt.rest.length n3] 83)) SE;obtain ⟨d0,d1,d2,d3,d4,d5,d6,d7,d8,d9,d10,d11,d12⟩:=HC';have h2b:=Oe wr;clear hel KO hva hvb hcells';go_wp2_with fail;refine (aBs x y _ _ _ _ _ _ p _ (((hb.trans ((h2b _ _).mono hb.size)).cell (p:=⟨p,0,none⟩) hlt).trans Hp.out) (Nat.lt_of_lt_of_le hlt (hb.trans ((h2b _ _).mono hb.size)).size) (HVA.out.on (h2b _ _)) (HVB.out.on (h2b _ _))).mono ?_;rintro e w2 ⟨rfl,hb2⟩;have Cm:=(hb.trans ((h2b _ _).mono hb.size)).trans (hb2.mono (hb.trans ((h2b _ _).mono hb.size)).size);clear hb2 h2b hb d0 d1 d2 d3 d4 d5 d6 d7 d8 d9 d10 d11 d12;cases hsv:Ar x y with
    | true =>
     have VQ:=hiQ (Hs.out hsv);clear hsv;exact zDc
    | false =>
     have VQ:=hiQ (Hn.out hsv);clear hsv;exact zEr
   exact zEs
 have h1:((xs.length:Int) != (ys.length:Int))=true:=by rw [bne_iff_ne];omega
 have HL:=hiQ (aq5 (f:=Ar) hl);clear hl;go_enter Tryz.func149,Tryz.ntmps149
 exact zGm
theorem zCg {p:Prop} (h:p:=by
 go_enter Tryz.func123,Tryz.ntmps123
 go_upto_region 1 with fail;refine Fj (fun wd2 hb1 X Y N => ?_);have hw3:=hb1;clear hb1;obtain ⟨aK,bJ,bY,bZ,dL,eX,bU,dD,dM,dU⟩:=X.out.c10;obtain ⟨kT,kU,kV,kW,kX,mD,lJ,mF,wS,wU⟩:=Y.out.c10;have P9:=N.out.e0;go_wp2_with fail;go_ret;exact ⟨au hs.out.symm,hw3⟩):p:=h
theorem alike_any (x y:ay) (vs vm us um:Value) (w:World) (hx:jc w w.heap.size x vs vm) (hy:jc w w.heap.size y us um) :
  Calls Tryz.prog 123 #[dA x vs vm,dA y us um,.bool false] w (RTq w (.bool (nT x y))):=by
 obtain ⟨A1,c1,A2,c2,rfl,rfl,-,-⟩:=hx.forms;obtain ⟨B1,d1,B2,d2,rfl,rfl,-,-⟩:=hy.forms;have HX:=hiQ hx;have HY:=hiQ hy;clear hx hy;by_cases he:x.kind=y.kind
 ·
  have t1:(x.kind != y.kind)=false:=by simp [he]
  have e1:=hiQ he;clear he;by_cases he:x.low=y.low
  ·
   have t2:(x.low != y.low)=false:=by simp [he]
   have e2:=hiQ he;clear he;by_cases he:x.high=y.high
   ·
    have t3:(x.high != y.high)=false:=by simp [he]
    have e3:=hiQ he;clear he;by_cases he:x.max=y.max
    ·
     have t4:(x.max != y.max)=false:=by simp [he]
     have e4:=hiQ he;clear he;by_cases he:x.opn=y.opn
     ·
      have t5:(x.opn != y.opn)=false:=by simp [he]
      have hs:Hid (nT x y=(eqL akL x.syms y.syms && eqL Ar x.ah y.ah)):=by show _=_;unfold nT alx;rw [decide_eq_true ⟨e1.out,e2.out,e3.out,e4.out,he⟩];rfl
      clear e1 e2 e3 e4;go_enter Tryz.func123,Tryz.ntmps123
      go_upto_region 1 with fail;refine Fj (fun wd2 hb1 X Y N => ?_);have hw3:=hb1;clear hb1;obtain ⟨aK,bJ,bY,bZ,dL,eX,bU,dD,dM,dU⟩:=X.out.c10;obtain ⟨kT,kU,kV,kW,kX,mD,lJ,mF,wS,wU⟩:=Y.out.c10;have P9:=N.out.e0;go_wp2_with fail;clear aK bJ bY bZ dL eX bU dD dM dU kT kU kV kW kX mD lJ mF wS wU P9;((with_reducible refine (ax5 x.syms y.syms _ _ (w.heap.size+1+1) _ (HX.out.lens.1) (HY.out.lens.1) ((HX.out.on hw3).syms) ((HY.out.on hw3).syms) N.out.e0 N.out.here).mono ?_);rintro e wd4 ⟨rfl,hb5⟩);obtain ⟨X,Y,N⟩:=b3 X Y N hb5;replace hw3:=dT hw3 hb5;clear hb5;cases hq:eqL akL x.syms y.syms with
      | false =>
       rw [hq] at hs;clear hq;exact zDj
      | true =>
       rw [hq,Bool.true_and] at hs;clear hq;have bU:=X.out.e6;have lJ:=Y.out.e6;go_wp2_with fail;clear bU lJ;((with_reducible refine (ax6 x.ah y.ah _ _ (w.heap.size+1+1) _ (HX.out.lens.2) (HY.out.lens.2) ((HX.out.on hw3).ah) ((HY.out.on hw3).ah) N.out.e0 N.out.here).mono ?_);rintro e wL ⟨rfl,hb7⟩);obtain ⟨X,Y,N⟩:=b3 X Y N hb7;replace hw3:=dT hw3 hb7;clear hb7;generalize eqL Ar x.ah y.ah=bm at *;exact zDj
     have t5:(x.opn != y.opn)=true:=by simpa using he
     have hs:Hid (nT x y=false):=by show _=_;unfold nT alx;rw [decide_eq_false (fun h => he (by simp [h]))];rfl
     clear e1 e2 e3 e4;exact zCg
    have t4:(x.max != y.max)=true:=by simpa using he
    have hs:Hid (nT x y=false):=by show _=_;unfold nT alx;rw [decide_eq_false (fun h => he (by simp [h]))];rfl
    clear he e1 e2 e3;exact zCg
   have t3:(x.high != y.high)=true:=by simpa using he
   have hs:Hid (nT x y=false):=by show _=_;unfold nT alx;rw [decide_eq_false (fun h => he (by simp [h]))];rfl
   clear he e1 e2;exact zCg
  have t2:(x.low != y.low)=true:=by simpa using he
  have hs:Hid (nT x y=false):=by show _=_;unfold nT alx;rw [decide_eq_false (fun h => he (by simp [h]))];rfl
  clear he e1;exact zCg
 have t1:(x.kind != y.kind)=true:=by simpa using he
 have hs:Hid (nT x y=false):=by show _=_;unfold nT alx;rw [decide_eq_false (fun h => he (by simp [h]))];rfl
 clear he;exact zCg
end Go.Proofs.YtlamhkffnlgofaaGreatDoor
