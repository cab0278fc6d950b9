/- What schema.Valid computes. Plain: the canonical root of a root. No condition. -/
import Derived.Test.YtlamhkffnlgofaaGreatDoorForm
import Derived.Test.YtlamhkffnlgofaaGreatDoorHAI
import Derived.Lib.ItoaLen
set_option maxHeartbeats 4000000
set_option maxRecDepth 100000
namespace Go.Proofs.YtlamhkffnlgofaaGreatDoor
open Go.ChangeShapes Go.WideShapes Go.ChangeAt Go.RowKit
def inB (n:Nat) (u:Int):Bool:=decide (0≤u) && decide (u < n)
def akK (ts:List ay) (x:ay):Bool:=match bM ts x.key with | some y => decide (1≤y.kind) && decide (y.kind≤4) | none => false
def lU (ts:List ay):List ay→List (List UInt8)→Int
 | [],_ => 0
 | x :: r,S => if dY x=false∨(x.name≠[]∧S.contains x.name=true) then 1
  else if (lg x).all (inB ts.length)=false then 4
  else if x.kind=8∧akK ts x=false then 1
  else lU ts r (S ++ [x.name])
def fF (ts:List ay):Int:=if 32 < ts.length then 3 else lU ts ts []
def Sizes (ts:List ay):Prop := ∀ x ∈ ts,x.syms.length≤6000000000000∧x.ah.length≤6000000000000
theorem qh.kept {w:World} {b n:Nat} {S:List (List UInt8)} (h:qh w b n S):Kept (fun w => qh w b n S) w b (b+1) :=
 ⟨h,fun _ hk => h.keep (hk b (Nat.le_refl _) (Nat.lt_succ_self _)),h.here⟩
theorem Oq (l:List ay) (k:Nat) (h:k < l.length):(l.take k).map ay.name ++ [l[k].name]=(l.take (k+1)).map ay.name:=(Bj ay.name l k h).symm
theorem JW (ts r:List ay) (x:ay) (S:List (List UInt8)) (h:dY x=false∨(x.name≠[]∧S.contains x.name=true)):lU ts (x :: r) S=1:=by rw [lU,if_pos h]
theorem YO (ts r:List ay) (x:ay) (S:List (List UInt8)) (h:¬ (dY x=false∨(x.name≠[]∧S.contains x.name=true))) (h2:(lg x).all (inB ts.length)=false):lU ts (x :: r) S=4:=by rw [lU,if_neg h,if_pos h2]
theorem Lh (ts r:List ay) (x:ay) (S:List (List UInt8)) (h:¬ (dY x=false∨(x.name≠[]∧S.contains x.name=true))) (h2:(lg x).all (inB ts.length)=true) (h3:x.kind=8∧akK ts x=false):lU ts (x :: r) S=1:=by rw [lU,if_neg h,h2,if_neg (by simp),if_pos h3]
theorem Lj (ts r:List ay) (x:ay) (S:List (List UInt8)) (h:¬ (dY x=false∨(x.name≠[]∧S.contains x.name=true))) (h2:(lg x).all (inB ts.length)=true) (h3:¬ (x.kind=8∧akK ts x=false)):lU ts (x :: r) S=lU ts r (S ++ [x.name]):=by rw [lU,if_neg h,h2,if_neg (by simp),if_neg h3]
theorem NJ (l:List Int) (n:Nat) (u:Int) (h:u ∈ l) (hb:inB n u=false):l.all (inB n)=false:=by
 rw [List.all_eq_false];exact ⟨u,h,by simp [hb]⟩
theorem Jt (x:ay) (h:x.ah.length≤6000000000000):(lg x).length≤6000000000002:=by
 unfold lg;simp only [List.length_append,List.length_map];split <;> split <;> simp <;> omega
theorem Ll (x:ay) (h8:x.kind=8):x.key ∈ lg x:=by
 unfold lg;rw [if_pos h8];simp
theorem Ad {n:Nat} {u:Int} (h:inB n u=true):∃ k:Nat,u=k∧k < n:=by
 unfold inB at h;simp only [Bool.and_eq_true,decide_eq_true_eq] at h;exact ⟨u.toNat,by omega,by omega⟩
theorem Ju (ts:List ay) (x:ay) (kn:Nat) (hk:kn < ts.length) (h:x.key=kn):akK ts x=(decide (1≤ts[kn].kind) && decide (ts[kn].kind≤4)):=by
 unfold akK bM;rw [h];simp [hk]
theorem zIx {p:Prop} (h:p:=by
 go_wp2_with fail;go_ret;exact ⟨bC Hr.out.symm,hw⟩):p:=h
theorem zJk {p:Prop} (h:p:=by
 rcases Nat.lt_or_ge un ts.length with h | h
 · exfalso;unfold inB at hin;simp at hin;omega
 exact h):p:=h
theorem zBe {p:Prop} (h:p:=by
 have hgW:=M.out.le;go_upto_region 10 with (at_mapUpdate;refine aqP rfl _ _ _ rfl gm k _ rfl M.out.now (by unfold maxLen;omega) x.name rfl rfl (by unfold maxLen;omega) ?_;intro w3 CB hg3)
 have hbm:=Ef hg3 (Nat.le_of_lt hgW) (fun j hj => by cases hj;exact Nat.le_refl _);have hkk:∀ q,q < kL.heap.size→some gm≠some q→w3.heap[q]?=kL.heap[q]?:=fun q hq hne => hg3.block q hq (fun e => hne e.symm);have hvv:∀ q,some gm=some q→q=gm:=fun q h => by injection h with h;exact h.symm
 clear M bJ;replace S:=dG S hkk (fun hh => by have:=hvv _ hh;omega);replace X:=dG X hkk (fun hh => by have:=hvv _ hh;omega);replace hw:=hw.trans (hbm.mono (show w.heap.size≤gm by omega));have M:=hiQ (qh.kept CB);clear CB hg3 hkk hvv hbm hgW;obtain ⟨aK,bJ,bY,bZ,dL,eX,bU,dD,dM,dU⟩:=X.out.c10;go_wp2_with fail;clear aK bJ bY bZ dL eX bU dD dM dU;((with_reducible refine (Wh x _ _ _ hsz.2 (Wj.out.on hw)).mono ?_);rintro e lZ ⟨vu,rfl,Z7,kR⟩);obtain ⟨S,X,M⟩:=b3 S X M kR;replace hw:=dT hw kR;clear kR;have Wn:=Jt x hsz.2;have FI:=hiQ (Ll x);obtain ⟨l,hlq⟩ : ∃ l,lg x=l:=⟨_,rfl⟩
 rw [hlq] at Z7 Wn FI;have Lm:=hiQ hlq;obtain ⟨Au,cu,rfl,_⟩:=Z7.form;clear hlq;have U:=hiQ (Kept.rd (P:=fun w B => Rd w B 1 (.slice Au l.length cu) l.length (l.map (Value.int .i64))) Z7 (Nat.le_refl _) (fun _ hk => Z7.keep hk));clear Z7;have aH:=S.out.e0;have aK:=X.out.e0;have dD:=X.out.e7;go_wp2_with fail;go_loop [40] (fun j => ∃ q:Nat,q≤l.length∧j = .int .i64 q∧(l.take q).all (inB ts.length)=true) (fun j => l.length - (intOf j).toNat)
 case atStart => exact ⟨0,by omega,rfl,rfl⟩
 case round =>
  obtain ⟨q,hq,rfl,hall⟩:=hrel;by_cases tV:q < l.length
  ·
   obtain ⟨bu,ou,rfl,hbu,Lr⟩:=U.out.now.at_ (by omega);have cu0:=ints_at Lr q tV;have hmem:=List.getElem_mem tV;have htk:(l.take (q+1)).all (inB ts.length)=((l.take q).all (inB ts.length) && inB ts.length l[q]):=by rw [List.take_succ_eq_append_getElem tV,List.all_append];simp
   have hq1:(q:Int) < l.length:=by omega
   generalize l[q]=u at *;clear Lr;cases hin:inB ts.length u with
   | true =>
    obtain ⟨un,rfl,hun⟩:=Ad hin;have yP:Hid ((l.take (q+1)).all (inB ts.length)=true):=by show _=_;rw [htk,hall,hin];rfl
    have hu0:decide ((un:Int) < 0)=false:=decide_eq_false (by omega);have hu1:decide (ts.length≤un)=false:=decide_eq_false (by omega);clear hall htk hin hmem;go_wp2_with fail;go_round
    case rel => exact ⟨q+1,by omega,by go_num,yP.out⟩
    case measure => simp [intOf];omega
   | false =>
    have Hr:Hid (fF ts=4):=by show _=_;rw [Hv.out,zQ.out,YO ts _ x _ AU.out (by rw [Lm.out];exact NJ l _ u hmem hin)]
    by_cases hu0:u < 0
    ·
     have hu1:decide (u < 0)=true:=decide_eq_true hu0;clear hall htk hin hmem;exact zIx
    obtain ⟨un,rfl⟩ : ∃ un:Nat,u=un:=⟨u.toNat,by omega⟩
    have hu2:ts.length≤un:=by
     exact zJk
    have hu1:decide ((un:Int) < 0)=false:=decide_eq_false (by omega);have hu3:decide (ts.length≤un)=true:=decide_eq_true hu2;clear hall htk hin hmem hu0;exact zIx
  obtain rfl:q=l.length:=by omega
  rw [List.take_of_length_le (Nat.le_refl _)] at hall;have arP:Hid ((lg x).all (inB ts.length)=true):=by show _=_;rw [Lm.out];exact hall
  by_cases h8:x.kind=8
  ·
   have t8:(x.kind == 8)=true:=by simp [h8]
   obtain ⟨kn,hkn,hkl⟩:=Ad (List.all_eq_true.1 hall x.key (FI.out h8));have hko:=Ju ts x kn hkl hkn;obtain ⟨ys,ym,GX,-⟩:=Ez.out kn hkl;have d0:=((hw).cell (p:=⟨b,_,none⟩) hbb).trans GX.1;have aeo:(kn:Int) < ts.length:=by omega
   have H8:=hiQ h8;have cX7:=X.out.cell 7;simp only [qI] at cX7;rw [hkn] at dD cX7;generalize ts[kn].kind=yk at *;clear hall h8 GX hkn;by_cases hy1:yk < 1
   ·
    have ty:decide (yk < 1)=true:=decide_eq_true hy1;have Hr:Hid (fF ts=1):=by show _=_;rw [Hv.out,zQ.out,Lh ts _ x _ AU.out arP.out ⟨H8.out,by rw [hko,decide_eq_false (by omega)];rfl⟩]
    clear hko;exact zIx
   have ty:decide (yk < 1)=false:=decide_eq_false hy1;by_cases hy4:4 < yk
   ·
    have ty4:decide (4 < yk)=true:=decide_eq_true hy4;have Hr:Hid (fF ts=1):=by show _=_;rw [Hv.out,zQ.out,Lh ts _ x _ AU.out arP.out ⟨H8.out,by rw [hko,decide_eq_false (show ¬ yk≤4 by omega)];simp⟩]
    clear hko;exact zIx
   have ty4:decide (4 < yk)=false:=decide_eq_false hy4;have FN:Hid (¬ (x.kind=8∧akK ts x=false)):=fun h => by
    have h2:=h.2;rw [hko,decide_eq_true (show 1≤yk by omega),decide_eq_true (show yk≤4 by omega)] at h2;cases h2
   clear hko;go_wp2_with fail;clear aH aK dD;go_wp2_with fail;go_roundw
   case rel => exact ⟨k+1,by omega,by go_num,by have h:=M.out.now;rw [GV.out] at h;exact h,S.out,by rw [zQ.out,Lj ts _ x _ AU.out arP.out FN.out,GV.out],hw⟩
   case measure => simp [intOf];omega
  have t8:(x.kind == 8)=false:=by simpa using h8
  have FN:Hid (¬ (x.kind=8∧akK ts x=false)):=fun h => h8 h.1;clear hall h8;go_wp2_with fail;clear aH aK dD;go_wp2_with fail;go_roundw
  case rel => exact ⟨k+1,by omega,by go_num,by have h:=M.out.now;rw [GV.out] at h;exact h,S.out,by rw [zQ.out,Lj ts _ x _ AU.out arP.out FN.out,GV.out],hw⟩
  case measure => simp [intOf];omega):p:=h
theorem zDm {p:Prop} (h:p:=by
 go_wp2_with fail;go_ret;exact ⟨bC Hr.out.symm,hw⟩):p:=h
theorem ab6 (ts:List ay) (A:Option Addr) (c:Nat) (w:World) (hs:Sizes ts) (ht:aU w w.heap.size (.slice A ts.length c) ts) :
  Calls Tryz.prog 63 #[.agg #[.slice A ts.length c]] w (RTq w (.int .i64 (fF ts))):=by
 have HT:=hiQ ht;have HS:=hiQ hs;by_cases h32:32 < ts.length
 ·
  have Hv:Hid (fF ts=3):=by show _=_;unfold fF;rw [if_pos h32]
  have hd:(32:Int) < ts.length:=by omega
  have hd2:decide ((32:Int) < ts.length)=true:=decide_eq_true hd;clear ht hs;go_enter Tryz.func63,Tryz.ntmps63
  go_upto_region 1 with fail;refine aO (fun wd2 hb1 S => ?_);have hw3:=hb1;clear hb1;have aH:=S.out.e0;go_wp2_with fail;go_ret;exact ⟨bC Hv.out.symm,hw3⟩
 have Hv:Hid (fF ts=lU ts ts []):=by show _=_;unfold fF;rw [if_neg h32]
 have hd:(ts.length:Int)≤32:=by omega
 have hd2:decide ((32:Int) < ts.length)=false:=decide_eq_false (by omega);have hmm:=@run_makeMap Tryz.prog;clear hs;by_cases hz:ts.length=0
 ·
  have Uf:Hid (fF ts=0):=by show _=_;rw [Hv.out,List.eq_nil_of_length_eq_zero hz,lU]
  rw [hz];clear ht h32 hd hd2;go_enter Tryz.func63,Tryz.ntmps63
  go_upto_region 1 with fail;refine aO (fun wd2 hb1 S => ?_);have hw3:=hb1;clear hb1;have hS0:=S.out.alloc (.map #[] 0);have cS:=hS0.cell 0;simp only [qI] at cS;have aH:=S.out.e0;go_wp2_with fail;refine wp_loop_rounds 1 ?_;rw [rounds_succ];go_wp2_with fail;go_ret;exact ⟨bC Uf.out.symm,jY hw3 (Nat.le_refl _) _⟩
 obtain ⟨b,o,rfl,hbb,hel⟩:=ht.elem (by omega);have Ez:=hiQ hel;clear ht hel;go_enter Tryz.func63,Tryz.ntmps63
 go_upto_region 1 with fail;refine aO (fun wd2 hb1 S => ?_);have hw3:=hb1;clear hb1;have aga:=qh.made wd2;have hS0:=S.out.alloc (.map #[] 0);have hlt0:=S.out.here;have hb0:=jY hw3 (Nat.le_refl _) (.map #[] 0);have cS:=hS0.cell 0;simp only [qI] at cS;have aH:=S.out.e0;go_upto_region 4 with fail;clear aH;generalize wd2.alloc (.map #[] 0)=wm at *;generalize wd2.heap.size=gm at *;have agb:=hiQ aga;have Eh:=hiQ hS0;clear hmm aga hS0 S;go_wp2_with fail;clear cS;go_loopw [16] (fun i wr => ∃ k:Nat,k≤ts.length∧i = .int .i64 k∧qh wr gm k ((ts.take k).map ay.name)∧Has wr w.heap.size 25 #[.slice (some ⟨b,o,none⟩) ts.length c]∧lU ts ts []=lU ts (ts.drop k) ((ts.take k).map ay.name)∧Below w.heap.size w wr) (fun i _ => ts.length - (intOf i).toNat)
 case atStart => exact ⟨0,by omega,rfl,agb.out,Eh.out,rfl,hb0⟩
 case round =>
  clear hb0 agb Eh;obtain ⟨k,hk,rfl,hset,S,hvk,hw⟩:=hrel;by_cases hlt:k < ts.length
  ·
   obtain ⟨vs,vm,hcells,hxa⟩:=Ez.out k hlt;have hsz:=HS.out _ (List.getElem_mem hlt);have GV:=hiQ (Oq ts k hlt);rw [List.drop_eq_getElem_cons hlt] at hvk;generalize ts[k]=x at *;obtain ⟨C1,m1,C2,m2,rfl,rfl,-,-⟩:=hxa.forms;obtain ⟨y0,y1,y2,y3,y4,y5,y6,y7,y8,y9⟩:=hcells;have c0:=(hw.cell (p:=⟨b,_,none⟩) hbb).trans y0;have c1:=(hw.cell (p:=⟨b,_,none⟩) hbb).trans y1;have c2:=(hw.cell (p:=⟨b,_,none⟩) hbb).trans y2;have c3:=(hw.cell (p:=⟨b,_,none⟩) hbb).trans y3;have c4:=(hw.cell (p:=⟨b,_,none⟩) hbb).trans y4;have c5:=(hw.cell (p:=⟨b,_,none⟩) hbb).trans y5;have c6:=(hw.cell (p:=⟨b,_,none⟩) hbb).trans y6;have c7:=(hw.cell (p:=⟨b,_,none⟩) hbb).trans y7;have c8:=(hw.cell (p:=⟨b,_,none⟩) hbb).trans y8;have c9:=(hw.cell (p:=⟨b,_,none⟩) hbb).trans y9;clear y0 y1 y2 y3 y4 y5 y6 y7 y8 y9;have Wj:=hiQ hxa;have zQ:=hiQ hvk;have hi1:(k:Int) < ts.length:=by omega
   have hnl:=hxa.GI;clear hxa hvk;replace S:=hiQ S;have M:=hiQ (qh.kept hset);clear hset;go_upto_region 7 with fail;refine aO (fun fG hb4 X => ?_);have nI:=S.out.here;have mO:=M.out.le;have kH:=hw.size;obtain ⟨S,M⟩:=b2 S M hb4;replace hw:=dT hw hb4;clear hb4;generalize wr.heap.size=g6 at *;clear c0 c1 c2 c3 c4 c5 c6 c7 c8 c9;obtain ⟨aK,bJ,bY,bZ,dL,eX,bU,dD,dM,dU⟩:=X.out.c10;go_wp2_with fail;clear aK bJ bY bZ dL eX bU dD dM dU;((with_reducible refine (ad2 x _ _ _ hsz (Wj.out.on hw)).mono ?_);rintro e kL ⟨rfl,iR⟩);obtain ⟨S,X,M⟩:=b3 S X M iR;replace hw:=dT hw iR;clear iR;have hlook:=M.out.now.look x.name (by unfold maxLen;omega);cases hf:dY x with
   | false =>
    have Hr:Hid (fF ts=1):=by show _=_;rw [Hv.out,zQ.out,JW ts _ x _ (.inl hf)]
    clear hf hlook;have bJ:=X.out.e1;exact zDm
   | true =>
    by_cases hn:x.name = []
    ·
     have hie:x.name.isEmpty=true:=by rw [hn];rfl
     have AU:Hid (¬ (dY x=false∨(x.name≠[]∧((ts.take k).map ay.name).contains x.name=true))):=fun h => by
      rcases h with h | h
      · rw [hf] at h;cases h
      exact h.1 hn
     clear hf hlook hn;have bJ:=X.out.e1;go_upto_region 9 with fail;exact zBe
    have hie:x.name.isEmpty=false:=by cases hq:x.name with | nil => exact absurd hq hn | cons _ _ => rfl
    cases hc:((ts.take k).map ay.name).contains x.name with
    | true =>
     have Hr:Hid (fF ts=1):=by show _=_;rw [Hv.out,zQ.out,JW ts _ x _ (.inr ⟨hn,hc⟩)]
     rw [hc] at hlook;clear hf hc;have bJ:=X.out.e1;exact zDm
    | false =>
     have AU:Hid (¬ (dY x=false∨(x.name≠[]∧((ts.take k).map ay.name).contains x.name=true))):=fun h => by
      rcases h with h | h
      · rw [hf] at h;cases h
      rw [hc] at h;cases h.2
     rw [hc] at hlook;clear hf hc;have bJ:=X.out.e1;go_upto_region 9 with fail;clear hlook;exact zBe
  obtain rfl:k=ts.length:=by omega
  have Hr:Hid (fF ts=0):=by show _=_;rw [Hv.out,hvk,List.drop_eq_nil_of_le (Nat.le_refl _),lU]
  clear hvk;exact zDm
end Go.Proofs.YtlamhkffnlgofaaGreatDoor
namespace Go.Proofs.YtlamhkffnlgofaaGreatDoor
theorem zGv {p:Prop} (h:p:=by
 refine ⟨?_,h2,h3⟩;cases hf:dY x with
 | true => rfl
 | false => exact absurd (.inl hf) h1):p:=h
theorem asO (ts:List ay):∀ (l:List ay) (S:List (List UInt8)),lU ts l S=0→∀ x ∈ l,dY x=true∧(lg x).all (inB ts.length)=true∧¬ (x.kind=8∧akK ts x=false)
 | [],_,_,x,hx => by simp at hx
 | y :: r,S,h,x,hx => by
  by_cases h1:dY y=false∨(y.name≠[]∧S.contains y.name=true)
  · rw [JW ts r y S h1] at h;cases h
  cases h2:(lg y).all (inB ts.length) with
  | false => rw [YO ts r y S h1 h2] at h;cases h
  | true =>
   by_cases h3:y.kind=8∧akK ts y=false
   · rw [Lh ts r y S h1 h2 h3] at h;cases h
   rw [Lj ts r y S h1 h2 h3] at h;rcases List.mem_cons.1 hx with rfl | hx
   · exact zGv
   exact asO ts r _ h x hx
theorem atQ (ts:List ay):∀ (l:List ay) (S:List (List UInt8)),(∀ x ∈ l,dY x=true∧(lg x).all (inB ts.length)=true∧¬ (x.kind=8∧akK ts x=false))→(∀ x ∈ l,x.name≠[]→x.name ∉ S)→l.Pairwise (fun a b => b.name≠[]→a.name≠b.name)→lU ts l S=0
 | [],S,_,_,_ => by rw [lU]
 | x :: r,S,h,hS,hp => by
  obtain ⟨h1,h2,h3⟩:=h x (by simp);rw [List.pairwise_cons] at hp;rw [Lj ts r x S (by
   rintro (h | ⟨h,h'⟩)
   · rw [h1] at h;cases h
   exact hS x (by simp) h (by simpa using h')) h2 h3]
  exact atQ ts r (S ++ [x.name]) (fun y hy => h y (by simp [hy])) (fun y hy hne hm => by
   rcases List.mem_append.1 hm with hm | hm
   · exact hS y (by simp [hy]) hne hm
   rw [List.mem_singleton] at hm;exact hp.1 y hy hne hm.symm) hp.2
theorem ni {ts:List ay} (h:fF ts=0):ts.length≤32∧∀ x ∈ ts,dY x=true∧(lg x).all (inB ts.length)=true∧¬ (x.kind=8∧akK ts x=false):=by
 unfold fF at h;by_cases h1:32 < ts.length
 · rw [if_pos h1] at h;cases h
 rw [if_neg h1] at h;exact ⟨by omega,asO ts ts [] h⟩
theorem Us {x:ay} (h:dY x=true):1≤x.kind∧x.kind≤9:=by
 unfold dY at h;simp only [Bool.and_eq_true,decide_eq_true_eq] at h;exact h.1
theorem zFk {p:Prop} (h:p:=by
 simp only [List.map_append,List.map_map]
 congr 1
 congr 1
 · split <;> rfl
 by_cases h7:7≤x.kind
 · rw [if_pos (by omega),if_pos h7];rfl
 rw [if_neg (by omega),if_neg h7];rfl):p:=h
theorem alr {x:ay} (hk:x.kind≤9):outs x=(lg x).map Int.toNat:=by
 unfold outs bn lg;exact zFk
theorem FP {ts:List ay} (h:fF ts=0):Inside ts:=by
 intro x hx u hu;obtain ⟨h1,h2,_⟩:=(ni h).2 x hx;rw [alr (Us h1).2] at hu;obtain ⟨v,hv,rfl⟩:=List.mem_map.1 hu;rw [List.all_eq_true] at h2;obtain ⟨k,rfl,hk⟩:=Ad (h2 v hv);exact hk
def rF (c:UInt8) (n:Int):List UInt8:=c :: Lib.itoa n
def axK (l:List UInt8):Nat:=l.foldl (fun a c => a*10+(c.toNat - 48)) 0
theorem avV (u:Nat):axK (Lib.decDigits u)=u:=by
 induction u using Nat.strongRecOn with
 | ind u ih =>
  rw [Lib.decDigits];split
  ·
   next h =>
   have:(UInt8.ofNat (48+u)).toNat=48+u:=by rw [UInt8.toNat_ofNat_of_lt' (by show _ < 256;omega)]
   simp only [axK,List.foldl_cons,List.foldl_nil,this];omega
  next h =>
  have h2:(UInt8.ofNat (48+u % 10)).toNat=48+u % 10:=by rw [UInt8.toNat_ofNat_of_lt' (by show _ < 256;omega)]
  have h3:=ih (u / 10) (by omega);unfold axK at h3 ⊢;rw [List.foldl_append,h3,List.foldl_cons,List.foldl_nil,h2];omega
theorem axc {c:UInt8} {a b:Int} (ha:0≤a) (hb:0≤b) (h:rF c a=rF c b):a=b:=by
 unfold rF Lib.itoa at h;rw [if_neg (by omega),if_neg (by omega)] at h;injection h with _ h;have h1:=congrArg axK h;rw [avV,avV] at h1;omega
theorem aBB (u:Nat):(Lib.decDigits u).all Ih=true:=by
 induction u using Nat.strongRecOn with
 | ind u ih =>
  have hd:∀ v,v < 10→Ih (UInt8.ofNat (48+v))=true:=by
   intro v hv;unfold Ih;rw [UInt8.toNat_ofNat_of_lt' (by show _ < 256;omega)];simp;omega
  rw [Lib.decDigits];split
  · next h => rw [List.all_cons,hd u h,List.all_nil];rfl
  next h => rw [List.all_append,ih (u / 10) (by omega),List.all_cons,hd (u % 10) (by omega),List.all_nil];rfl
theorem avW {c:UInt8} (hc:Cj c=true) {n:Int} (h0:0≤n) (h1:n≤9223372036854775807):nameB (rF c n)=true:=by
 have hl:=Lib.itoa_length_le n (by omega) h1;unfold nameB rF;have hd:(Lib.itoa n).all (fun c => Cj c || Ih c)=true:=by
  unfold Lib.itoa;rw [if_neg (by omega),List.all_eq_true];intro x hx;have:=List.all_eq_true.1 (aBB n.toNat) x hx;simp [this]
 simp only [List.length_cons,List.headD_cons,List.all_cons,hc,hd,Bool.true_or,Bool.and_true];simp;omega
theorem aC5 (c:UInt8) (n:Int):rF c n≠[]:=by unfold rF;simp
def aoc (ix:Nat→Nat) (m:Mem):Mem:={ m with name:=rF 102 m.id,ty:=((ix m.ty.toNat:Nat):Int) }
def anL (s:Raw):Raw:=(s.1,rF 115 s.1)
def Aq (n:Nat) (ix:Nat→Nat) (x:ay):ay :=
 { x with name:=if x.name = [] then [] else rF 84 n,syms:=x.syms.map anL,ah:=x.ah.map (aoc ix),key:=if x.kind=8 then ((ix x.key.toNat:Nat):Int) else x.key,elem:=if x.kind=7∨x.kind=8∨x.kind=9 then ((ix x.elem.toNat:Nat):Int) else x.elem }
theorem ay5 (n:Nat) (ix:Nat→Nat) (x:ay):Alike x (Aq n ix x) :=
 ⟨rfl,rfl,rfl,rfl,rfl,by simp [Aq,anL,List.map_map,Function.comp_def],by simp [Aq,aoc,aoW,List.map_map,Function.comp_def]⟩
theorem avX (n:Nat) (ix:Nat→Nat) (x:ay):outs (Aq n ix x)=(outs x).map ix:=by
 unfold outs bn Aq;simp only [List.map_append,List.map_map]
 congr 1
 congr 1
 · split <;> simp
 split <;> simp
noncomputable def ixN (ts:List ay) (t u:Nat):Nat:=(Ht ts t).idxOf (dR ts u)
noncomputable def jk (ts:List ay) (t:Nat):List ay:=(Ht ts t).mapIdx (fun n a => Aq n (ixN ts t) (ts.getD a iC))
theorem aoS (ts:List ay) (t:Nat):(jk ts t).length=(Ht ts t).length:=by unfold jk;simp
theorem aq9 (ts:List ay) (t n a:Nat) (h:(Ht ts t)[n]?=some a):(jk ts t)[n]?=some (Aq n (ixN ts t) (ts.getD a iC)):=by
 unfold jk;rw [List.getElem?_mapIdx,h];rfl
theorem aqL {l:List Nat} {a:Nat} (h:a ∈ l):l[l.idxOf a]?=some a:=by
 have h1:=List.idxOf_lt_length_of_mem h;rw [List.getElem?_eq_getElem h1,List.getElem_idxOf h1]
theorem aC6 {l:List Nat} (hn:l.Nodup) {n a:Nat} (h:l[n]?=some a):l.idxOf a=n:=by
 obtain ⟨h1,h2⟩:=List.getElem?_eq_some_iff.1 h;have h3:=aqL (List.mem_of_getElem? h);obtain ⟨h4,h5⟩:=List.getElem?_eq_some_iff.1 h3;have hp:=List.pairwise_iff_getElem.1 hn;rcases Nat.lt_trichotomy (l.idxOf a) n with h6 | h6 | h6
 · exact absurd (h5.trans h2.symm) (hp _ _ h4 h1 h6)
 · exact h6
 exact absurd (h2.trans h5.symm) (hp _ _ h1 h4 h6)
section
variable {ts:List ay} (hin:Inside ts) {t:Nat} (ht:t < ts.length)
include hin ht
theorem auf {i k:Nat} (hi:i < ts.length) (hk:(Ht ts t)[k]?=some (dR ts i)):Y5 ts (jk ts t) i k:=by
 refine ⟨fun i k => i < ts.length∧(Ht ts t)[k]?=some (dR ts i),?_,hi,hk⟩;rintro i k ⟨hi,hk⟩;obtain ⟨x,z,hx,hz,ha,hj⟩:=abg ts ts _ _ (alk hin hi);obtain ⟨hr,_,hcl⟩:=akS hin ht;have hg:ts.getD (dR ts i) iC=z:=by rw [List.getD_eq_getElem?_getD,hz];rfl
 refine ⟨x,_,hx,aq9 ts t k _ hk,by rw [hg];exact ha.trans (ay5 _ _ _),fun j a b h1 h2 => ?_⟩;rw [hg,avX,List.getElem?_map] at h2;cases hb:(outs z)[j]? with
 | none => rw [hb] at h2;cases h2
 | some b0 =>
  rw [hb] at h2;injection h2 with h2;subst h2;have hab:=hj j a b0 h1 hb;refine ⟨hab.lt.1,?_⟩;rw [atP hin hab];refine aqL (hcl _ (List.mem_of_getElem? hk) b0 ?_);unfold og;rw [hz];exact List.mem_of_getElem? hb
theorem aqC:Y5 ts (jk ts t) t 0:=auf hin ht ht (aAg hin ht)
end
theorem aug {x y:ay} (h1:x.kind=y.kind) (h2:x.name=y.name) (h3:x.low=y.low) (h4:x.high=y.high) (h5:x.max=y.max) (h6:x.syms=y.syms) (h7:x.ah=y.ah) (h8:x.key=y.key) (h9:x.elem=y.elem) (h10:x.opn=y.opn):x=y:=by
 cases x;cases y;simp only at *;subst h1 h2 h3 h4 h5 h6 h7 h8 h9 h10;rfl
theorem ay6 {x:ay} (h:jy x iC=true):x=iC:=by
 unfold jy at h;simp only [Bool.and_eq_true,decide_eq_true_eq] at h;obtain ⟨⟨h1,h2,h3,h4,h5,h6,h7,h8⟩,h9,h10⟩:=h;exact aug h1 h2 h3 h4 h5 (List.eq_nil_of_length_eq_zero h9) (List.eq_nil_of_length_eq_zero h10) h6 h7 h8
theorem asb {x:ay} (h:dY x=true):gZ x=iC:=by
 unfold dY at h;simp only [Bool.and_eq_true] at h;exact ay6 h.2.2
theorem U0 {x:ay} (h:dY x=true):(x.name = []↔¬ (x.kind=4∨x.kind=5∨x.kind=6))∧(x.kind≠8→x.key=0)∧(¬ (x.kind=7∨x.kind=8∨x.kind=9)→x.elem=0)∧(¬ (x.kind=5∨x.kind=6)→x.ah = [])∧(x.kind≠4→x.syms = []):=by
 have hr:=asb h;have hn:(x.kind=4∨x.kind=5∨x.kind=6)→x.name≠[]:=by
  intro hk he;unfold dY at h;simp only [Bool.and_eq_true] at h;have ho:=h.2.1;unfold rD at ho;have hz:nameB x.name=false:=by rw [he];decide
  rw [hz] at ho;rcases hk with hk | hk | hk <;> simp [hk] at ho
 have hf:=fun (f:ay→List UInt8) => congrArg f hr;have e1:=congrArg ay.name hr;have e2:=congrArg ay.key hr;have e3:=congrArg ay.elem hr;have e4:=congrArg ay.ah hr;have e5:=congrArg ay.syms hr;have hkd:=Us h;unfold gZ at e1 e2 e3 e4 e5;have hc:x.kind=1∨x.kind=2∨x.kind=3∨x.kind=4∨x.kind=5∨x.kind=6∨x.kind=7∨x.kind=8∨x.kind=9:=by omega
 refine ⟨⟨fun h1 h2 => hn h2 h1,fun h1 => ?_⟩,fun h1 => ?_,fun h1 => ?_,fun h1 => ?_,fun h1 => ?_⟩
 all_goals rcases hc with hk | hk | hk | hk | hk | hk | hk | hk | hk <;> simp [hk,iC] at h1 e1 e2 e3 e4 e5 ⊢ <;> assumption
theorem avY {ts us:List ay} {ix iy:Nat→Nat} : ∀ (ms ns:List Mem),ms.map aoW=ns.map aoW→(∀ (j a b:Nat),(ms.map fun m => m.ty.toNat)[j]?=some a→(ns.map fun m => m.ty.toNat)[j]?=some b→ix a=iy b)→ms.map (aoc ix)=ns.map (aoc iy)
 | [],[],_,_ => rfl
 | m :: ms,n :: ns,h,hx => by
  simp only [List.map_cons,List.cons.injEq] at h ⊢;refine ⟨?_,avY (ts:=ts) (us:=us) ms ns h.2 fun j a b h1 h2 => hx (j+1) a b (by simpa using h1) (by simpa using h2)⟩;have h0:=hx 0 m.ty.toNat n.ty.toNat rfl rfl;obtain ⟨m1,m2,m3,m4,m5,m6⟩:=m;obtain ⟨n1,n2,n3,n4,n5,n6⟩:=n;simp only [aoW,Prod.mk.injEq] at h;obtain ⟨⟨rfl,rfl,rfl,rfl⟩,_⟩:=h;simp only at h0;simp only [aoc,h0]
 | [],_ :: _,h,_ => by simp at h
 | _ :: _,[],h,_ => by simp at h
theorem aC7 {n:Nat} {ix iy:Nat→Nat} {x y:ay} (hx:dY x=true) (hy:dY y=true) (ha:Alike x y) (hj:∀ (j a b:Nat),(outs x)[j]?=some a→(outs y)[j]?=some b→ix a=iy b):Aq n ix x=Aq n iy y:=by
 obtain ⟨x1,x2,x3,_,_⟩:=U0 hx;obtain ⟨y1,y2,y3,_,_⟩:=U0 hy;have hl:x.ah.length=y.ah.length:=ha.len;have hm:∀ (j a b:Nat),(x.ah.map fun m => m.ty.toNat)[j]?=some a→(y.ah.map fun m => m.ty.toNat)[j]?=some b→ix a=iy b:=fun j a b h1 h2 => by
  refine hj j a b ?_ ?_
  ·
   unfold outs bn;rw [List.map_append,List.getElem?_append_left (by have:=(List.getElem?_eq_some_iff.1 h1).1;simpa using this),List.map_map];exact h1
  unfold outs bn;rw [List.map_append,List.getElem?_append_left (by have:=(List.getElem?_eq_some_iff.1 h2).1;simpa using this),List.map_map];exact h2
 have hkey:x.kind=8→ix x.key.toNat=iy y.key.toNat:=fun h8 => by
  have h8':y.kind=8:=ha.kind ▸ h8;refine hj x.ah.length _ _ ?_ ?_
  ·
   unfold outs bn;rw [List.map_append,List.getElem?_append_right (by simp),if_pos h8];simp
  unfold outs bn;rw [List.map_append,hl,List.getElem?_append_right (by simp),if_pos h8'];simp
 have hel:(x.kind=7∨x.kind=8∨x.kind=9)→ix x.elem.toNat=iy y.elem.toNat:=fun h7 => by
  have h7':y.kind=7∨y.kind=8∨y.kind=9:=ha.kind ▸ h7;refine hj (x.ah.length+(if x.kind=8 then 1 else 0)) _ _ ?_ ?_
  ·
   unfold outs bn;rw [List.map_append,List.getElem?_append_right (by simp),if_pos h7];by_cases h8:x.kind=8 <;> simp [h8]
  unfold outs bn;rw [List.map_append,hl,List.getElem?_append_right (by simp),if_pos h7',ha.kind];by_cases h8:y.kind=8 <;> simp [h8]
 refine aug ha.kind ?_ ha.low ha.high ha.max ?_ (avY (ts:=[]) (us:=[]) _ _ ha.ah hm) ?_ ?_ ha.opn
 ·
  show (if x.name = [] then [] else rF 84 n)=(if y.name = [] then [] else rF 84 n);have:x.name = []↔y.name = []:=by rw [x1,y1,ha.kind]
  by_cases h:x.name = []
  · rw [if_pos h,if_pos (this.1 h)]
  rw [if_neg h,if_neg (fun e => h (this.2 e))]
 ·
  show x.syms.map anL=y.syms.map anL;have hs:∀ l:List Raw,l.map anL=(l.map Prod.fst).map fun i => (i,rF 115 i):=fun l => by rw [List.map_map];rfl
  rw [hs,hs,ha.syms]
 ·
  show (if x.kind=8 then ((ix x.key.toNat:Nat):Int) else x.key)=(if y.kind=8 then ((iy y.key.toNat:Nat):Int) else y.key);by_cases h8:x.kind=8
  · rw [if_pos h8,if_pos (ha.kind ▸ h8),hkey h8]
  rw [if_neg h8,if_neg (ha.kind ▸ h8),x2 h8,y2 (ha.kind ▸ h8)]
 show (if x.kind=7∨x.kind=8∨x.kind=9 then ((ix x.elem.toNat:Nat):Int) else x.elem)=(if y.kind=7∨y.kind=8∨y.kind=9 then ((iy y.elem.toNat:Nat):Int) else y.elem);by_cases h7:x.kind=7∨x.kind=8∨x.kind=9
 · rw [if_pos h7,if_pos (ha.kind ▸ h7),hel h7]
 rw [if_neg h7,if_neg (ha.kind ▸ h7),x3 h7,y3 (ha.kind ▸ h7)]
theorem ay8 {ts us:List ay} (hts:fF ts=0) (hus:fF us=0) {i k:Nat} (h:Y5 ts us i k):jk ts i=jk us k:=by
 have it:=FP hts;have iu:=FP hus;have hc:=aBz it iu h;obtain ⟨hr1,_,hd1⟩:=akS it h.lt.1;obtain ⟨hr2,_,hd2⟩:=akS iu h.lt.2;refine List.ext_getElem? fun n => ?_;cases hn:(Ht ts i)[n]? with
 | none =>
  rw [List.getElem?_eq_none (by rw [aoS];exact List.getElem?_eq_none_iff.1 hn),List.getElem?_eq_none (by rw [aoS,← hc.1];exact List.getElem?_eq_none_iff.1 hn)]
 | some a =>
  have hl:n < (Ht us k).length:=by rw [← hc.1];exact (List.getElem?_eq_some_iff.1 hn).1
  have hm:=List.getElem?_eq_getElem hl;generalize (Ht us k)[n]=b at hm;rw [aq9 ts i n a hn,aq9 us k n b hm];have hab:=hc.2 n a b hn hm;obtain ⟨x,y,hx,hy,ha,hj⟩:=abg ts us a b hab;have gx:ts.getD a iC=x:=by rw [List.getD_eq_getElem?_getD,hx];rfl
  have gy:us.getD b iC=y:=by rw [List.getD_eq_getElem?_getD,hy];rfl
  rw [gx,gy]
  congr 1
  refine aC7 ((ni hts).2 x (List.mem_of_getElem? hx)).1 ((ni hus).2 y (List.mem_of_getElem? hy)).1 ha fun j u v hu hv => ?_;have huv:=hj j u v hu hv;have hmu:dR ts u ∈ Ht ts i:=hd1 a (List.mem_of_getElem? hn) u (by unfold og;rw [hx];exact List.mem_of_getElem? hu);have hiu:=aqL hmu;have hl2:(Ht ts i).idxOf (dR ts u) < (Ht us k).length:=by rw [← hc.1];exact (List.getElem?_eq_some_iff.1 hiu).1
  have hiv:=List.getElem?_eq_getElem hl2;have h1:=hc.2 _ _ _ hiu hiv;have h2:Y5 us us v (Ht us k)[(Ht ts i).idxOf (dR ts u)]:=(huv.symm.trans (alk it huv.lt.1)).trans h1;have h3:=atP iu h2;rw [(hr2.lt _ (List.getElem_mem hl2)).2] at h3;rw [← h3] at hiv;exact (aC6 hr2.nodup hiv).symm
end Go.Proofs.YtlamhkffnlgofaaGreatDoor
