/- What sheaveref18.Greatest computes: the greatest relation of two schemas. No condition. -/
import Derived.Test.YtlamhkffnlgofaaGreatDoorHAV
import Derived.Test.YtlamhkffnlgofaaGreatDoorCanon
set_option maxHeartbeats 8000000
set_option maxRecDepth 100000
namespace Go.Proofs.YtlamhkffnlgofaaGreatDoor
open Go.ChangeShapes Go.WideShapes Go.ChangeAt Go.RowKit
theorem NI.on {w w':World} {b o B:Nat} {x:ay} {vs vm:Value} (h:NI w b o x vs vm) (hb:b < B) (hk:∀ p:Addr,p.block < B→w'.cell? p=w.cell? p):NI w' b o x vs vm:=by
 obtain ⟨y0,y1,y2,y3,y4,y5,y6,y7,y8,y9⟩:=h;exact ⟨(hk ⟨b,_,none⟩ hb).trans y0,(hk ⟨b,_,none⟩ hb).trans y1,(hk ⟨b,_,none⟩ hb).trans y2,(hk ⟨b,_,none⟩ hb).trans y3,(hk ⟨b,_,none⟩ hb).trans y4,(hk ⟨b,_,none⟩ hb).trans y5,(hk ⟨b,_,none⟩ hb).trans y6,(hk ⟨b,_,none⟩ hb).trans y7,(hk ⟨b,_,none⟩ hb).trans y8,(hk ⟨b,_,none⟩ hb).trans y9⟩
def aob (ts us:List ay) (M:Tab) (i k:Nat):Prop:=M.length=ts.length∧∀ (a:Nat) (h:a < M.length),M[a]=if a < i then aiv ts us a else if a=i then (aiv ts us a).take k ++ List.replicate (us.length - k) false else []
theorem aiA.fill {ts us:List ay} {M:Tab} {i:Nat} (h:aiA ts us M i 0):aob ts us (M.set i (List.replicate us.length false)) i 0:=by
 refine ⟨by rw [List.length_set];exact h.1,fun a ha => ?_⟩;rw [List.length_set] at ha;by_cases e:a=i
 ·
  subst e;rw [List.getElem_set_self,if_neg (by omega),if_pos rfl];simp
 exact zFo
theorem aob.len {ts us:List ay} {M:Tab} {i k:Nat} (h:aob ts us M i k) (hi:i < ts.length) (hk:k≤us.length):∃ h1:i < M.length,M[i].length=us.length:=by
 have h1:i < M.length:=by rw [h.1];exact hi
 refine ⟨h1,?_⟩;rw [h.2 i h1,if_neg (by omega),if_pos rfl,List.length_append,List.length_take,ajV hi,List.length_replicate];omega
theorem aob.next {ts us:List ay} {M:Tab} {i k:Nat} (h:aob ts us M i k) (hi:i < ts.length) (hk:k < us.length) (h1:i < M.length):aob ts us (M.set i (M[i].set k (nT ts[i] us[k]))) i (k+1):=by
 have hr:=h.2 i h1;rw [if_neg (by omega),if_pos rfl] at hr;refine ⟨by rw [List.length_set];exact h.1,fun a ha => ?_⟩;rw [List.length_set] at ha;by_cases e:a=i
 ·
  subst e;rw [List.getElem_set_self,if_neg (by omega),if_pos rfl,hr];have hl:((aiv ts us a).take k).length=k:=by rw [List.length_take,ajV hi];omega
  rw [List.set_append_right _ _ (by omega),hl,Nat.sub_self,show us.length - k=(us.length - (k+1))+1 by omega,List.replicate_succ,List.set_cons_zero];have:(aiv ts us a).take (k+1)=(aiv ts us a).take k ++ [(aiv ts us a)[k]'(by rw [ajV hi];exact hk)]:=List.take_succ_eq_append_getElem _;rw [this,List.append_assoc]
  congr 2
  unfold aiv;simp [List.getElem?_eq_getElem hi]
 exact zFo
theorem aob.row {ts us:List ay} {M:Tab} {i:Nat} (h:aob ts us M i us.length):aiA ts us M (i+1) 0:=by
 refine ⟨h.1,fun a ha => ?_⟩;rw [h.2 a ha];by_cases e1:a < i
 · rw [if_pos e1,if_pos (by omega)]
 rw [if_neg e1];by_cases e2:a=i
 ·
  subst e2;rw [if_pos rfl,if_pos (by omega),List.take_of_length_le (by rw [ajV (by rw [← h.1];exact ha)];exact Nat.le_refl _)];simp
 rw [if_neg e2,if_neg (by omega)];split <;> simp
theorem aCZ (n:Nat):bV (List.replicate n false)=List.replicate n (.bool false):=by unfold bV;simp
structure an7 (w wr:World) (A E:Option Addr) (n m c c' rb:Nat) (M:Tab):Prop where
 sa:Has wr w.heap.size 25 #[.slice A n c]
 sb:Has wr (w.heap.size+1) 25 #[.slice E m c']
 t:TabAt wr (w.heap.size+2) (.slice (some ⟨rb,0,none⟩) n n) M
 b:Below w.heap.size w wr
theorem zFj {p:Prop} (h:p:=by
 go_wp2_with fail;go_roundw
 case rel => exact ⟨k+1,bb,M2,by omega,by go_num,rfl,FI.out,hc1,HC2.out,aqt.out,⟨SA.out,SB.out,TB.out.now,hb0⟩⟩
 case measure => simp [intOf];omega):p:=h
theorem avN (ts us:List ay) (A E:Option Addr) (c c':Nat) (w:World) (hn:ts.length≤1000) (hm:us.length≤1000) (hml:∀ x ∈ ts,x.ah.length≤1000) (hml':∀ x ∈ us,x.ah.length≤1000) (hiu:InU ts) (avd:InU us)
  (ht:aU w w.heap.size (.slice A ts.length c) ts) (hu:aU w w.heap.size (.slice E us.length c') us) :
  Calls Tryz.prog 72 #[.agg #[.slice A ts.length c],.agg #[.slice E us.length c'],.bool false] w (awS ts us w):=by
 have HT:=hiQ ht;have HU:=hiQ hu;have HM1:=hiQ hml;have EC:=hiQ hml';have HI1:=hiQ hiu;have HI2:=hiQ avd;clear ht hu hml hml' hiu avd;go_enter Tryz.func72,Tryz.ntmps72
 go_upto_region 1 with fail;refine jg (fun wd2 hb1 SA SB => ?_);have hw3:=hb1;clear hb1;have ajw:=SA.out.e0;obtain ⟨i0,hi,hz0,hz1,hz2⟩:=info_parts atb;have hLb:w.heap.size+2≤wd2.heap.size:=SB.out.here;go_upto_region 2 with (refine wpList_make_full wd2 rfl _ _ 126 rfl (w.heap.size+2) 125 i0 (.slice none 0 0) 1 Tryz.underlying126 hi hz0 hz1 .i64 .i64 _ _ ts.length rfl rfl rfl rfl (by rw [hz2];omega) (by simp only [maxLen];omega) hLb ?_;intro w3 hown3 hg3)
 rw [asU _ _ rfl] at hown3;have htab:=TabAt.new hown3;have hb3:Below wd2.heap.size wd2 w3:=(Below.refl _ wd2).grown hg3 (Nat.le_refl _) (fun k hk => by cases hk);obtain ⟨rb,hrb⟩ : ∃ g,g=wd2.heap.size:=⟨_,rfl⟩
 rw [← hrb] at htab hLb;rw [← hrb];clear hown3 hg3 hi hz0 hz1 hz2 hrb ajw;obtain ⟨SA,SB⟩:=b2 SA SB hb3;replace hw3:=dT hw3 hb3;have TB:=hiQ (Kept.tab htab);clear htab hb3;have ao2:an7 w w3 A E ts.length us.length c c' rb _:=⟨SA.out,SB.out,TB.out.now,hw3⟩
 go_upto_region 3 with fail;go_loopw [8] (fun s8 wr => ∃ i:Nat,i≤ts.length∧s8 = .int .i64 i∧∃ M,aiA ts us M i 0∧an7 w wr A E ts.length us.length c c' rb M) (fun s8 _ => ts.length - (intOf s8).toNat)
 case atStart => exact ⟨0,by omega,rfl,_,aiA.start ts us,ao2⟩
 case round =>
  clear SA SB TB ao2;obtain ⟨i,hi,rfl,M,hM,Ai⟩:=hrel;have hb0:=Ai.b;have SA:=Ai.sa;have SB:=Ai.sb;have hTA:=Ai.t;replace SA:=hiQ SA;replace SB:=hiQ SB;have TB:=hiQ (Kept.tab hTA);clear hTA Ai;have HBM:=hiQ hM;clear hM;by_cases hlt:i < ts.length
  ·
   have hi1:(i:Int) < ts.length:=by omega
   have hiM:i < M.length:=by rw [HBM.out.1];exact hlt
   obtain ⟨u,hrow⟩:=TB.out.now.row hiM;obtain ⟨i0,hif,hz0,hz1,hz2⟩:=info_parts atc;have hLb:=hrow.cell;have hfr:=hrow.free;have asT:rb < wr.heap.size:=World.block_lt_of_cell? _ _ hLb;have hL2:w.heap.size+2≤wr.heap.size:=SB.out.here;have hd0:decide ((i:Int) < 0)=false:=by simp
   have hd1:decide (ts.length≤i)=false:=by simpa using hlt
   have ajW:=SB.out.e0;go_upto_region 6 with (refine wpList_make_full wr rfl _ _ 125 rfl (w.heap.size+2) 4 i0 (.bool false) 1 Tryz.underlying125 hif hz0 hz1 .i64 .i64 _ _ us.length rfl rfl rfl rfl (by rw [hz2];omega) (by simp only [maxLen];omega) hL2 ?_;intro w3 hown3 hg3;have hb3:Below wr.heap.size wr w3:=(Below.refl _ wr).grown hg3 (Nat.le_refl _) (fun k hk => by cases hk);have hfr3:w3.frozen? ⟨rb,i,none⟩=false:=(World.frozen?_of_block (hb3.block rb asT)).trans hfr;have aG8:w3.cell? ⟨rb,i,none⟩=some u:=(hb3.cell (p:=⟨rb,i,none⟩) asT).trans hLb)
   rw [asU _ _ rfl,← aCZ] at hown3;have hput:=hrow.put w3 (.slice (some ⟨wr.heap.size,0,none⟩) us.length us.length) (List.replicate us.length false) (by rw [List.length_replicate];exact hown3) hb3.size (fun q _ h1 _ => hb3.block q h1) (fun q hq => by
    simp only [Value.ownBlock,Option.some.injEq] at hq;exact .inr (by omega))
   have hnb:∃ g,g=wr.heap.size:=⟨_,rfl⟩
   obtain ⟨g0,hg0⟩:=hnb;rw [← hg0] at hput;rw [← hg0];have hrL:w.heap.size+2≤rb:=by
    obtain ⟨us0,hu0,_⟩:=TB.out.now;exact (hu0.lt rb rfl).1
   clear hown3 hg3 hif hz0 hz1 hz2 hrow hg0 hLb hfr TB ajW;obtain ⟨SA,SB⟩:=b2 SA SB hb3;replace hb0:=dT hb0 hb3;clear hb3;generalize HEX:w3.setCell ⟨rb,i,none⟩ (.slice (some ⟨g0,0,none⟩) us.length us.length)=wd4;obtain ⟨SA,SB⟩:=f2 SA SB (eF HEX);replace hb0:=tf hb0 HEX;rw [HEX] at hput;clear HEX;have hbg:=HBM.out.fill;have HBG:=hiQ hbg;have ao6:an7 w wd4 A E ts.length us.length c c' rb _:=⟨SA.out,SB.out,hput,hb0⟩
   clear hput hbg HBM;go_upto_region 7 with fail;go_loopw [9] (fun s9 wr2 => ∃ k:Nat,k≤us.length∧s9 = .int .i64 k∧∃ M,aob ts us M i k∧an7 w wr2 A E ts.length us.length c c' rb M) (fun s9 _ => us.length - (intOf s9).toNat)
   case atStart => exact ⟨0,by omega,rfl,_,HBG.out,ao6⟩
   case round =>
    clear SA SB ao6 HBG hb0 hrL hiM;obtain ⟨k,hk,rfl,M,hM,Ai⟩:=hrel;have hb0:=Ai.b;have SA:=Ai.sa;have SB:=Ai.sb;have hTA:=Ai.t;replace SA:=hiQ SA;replace SB:=hiQ SB;have TB:=hiQ (Kept.tab hTA);clear hTA Ai;have HBM:=hiQ hM;clear hM;obtain ⟨hiM,hln⟩:=HBM.out.len hlt hk;obtain ⟨u,hrow⟩:=TB.out.now.row hiM;obtain ⟨Au,cu,rfl⟩:=hrow.form;have hrc:=hrow.cell;rw [hln] at hrc;have KC:=hiQ (Af hrc);by_cases hltk:k < us.length
    ·
     have hi2:(k:Int) < us.length:=by omega
     obtain ⟨rg,cv,hrv,axo,axp,auW,hbc,hbf⟩:=hrow.pos (k:=k) (by rw [hln];exact hltk);injection hrv with e1 e2 e3;subst e1;have hset:=hrow.set rg cu k (nT ts[i] us[k]) rfl;have hRg:w.heap.size≠rg∧w.heap.size+1≠rg:=by omega
     obtain ⟨bx,ox,hAe,hbb,hel⟩:=HT.out.elem (by omega);obtain ⟨vs,vm,hcs,hxa⟩:=hel i hlt;replace hcs:=hcs.below hb0 hbb;replace hxa:=hxa.keep (w':=wr) (fun p hp => (hb0).cell hp) (Nat.le_refl _);obtain ⟨x,hxe⟩ : ∃ x,x=ts[i]:=⟨_,rfl⟩
     rw [← hxe] at hcs hxa;obtain ⟨C1,l1,C2,l2,rfl,rfl,-,-⟩:=hxa.forms;have KX:=hiQ (Kept.rd (P:=fun w B => jc w B x (.slice C1 x.syms.length l1) (.slice C2 x.ah.length l2)∧NI w bx (ox+i*10) x (.slice C1 x.syms.length l1) (.slice C2 x.ah.length l2)) ⟨hxa,hcs⟩ (hb0).size (fun _ hk => ⟨hxa.keep hk (Nat.le_refl _),hcs.on hbb hk⟩));have hxi:ts[i]?=some x:=by rw [hxe];exact List.getElem?_eq_getElem hlt
     have KXI:=hiQ hxi;clear hel hxa hcs hxi hbb;subst hAe;obtain ⟨ba2,oa2,hAe,hbb,hel⟩:=HU.out.elem (by omega);obtain ⟨vs,vm,hcs,hxa⟩:=hel k hltk;replace hcs:=hcs.below hb0 hbb;replace hxa:=hxa.keep (w':=wr) (fun p hp => (hb0).cell hp) (Nat.le_refl _);obtain ⟨y,hye⟩ : ∃ x,x=us[k]:=⟨_,rfl⟩
     rw [← hye] at hcs hxa;obtain ⟨D1,m1,D2,m2,rfl,rfl,-,-⟩:=hxa.forms;have KY:=hiQ (Kept.rd (P:=fun w B => jc w B y (.slice D1 y.syms.length m1) (.slice D2 y.ah.length m2)∧NI w ba2 (oa2+k*10) y (.slice D1 y.syms.length m1) (.slice D2 y.ah.length m2)) ⟨hxa,hcs⟩ (hb0).size (fun _ hk => ⟨hxa.keep hk (Nat.le_refl _),hcs.on hbb hk⟩));have hyi:us[k]?=some y:=by rw [hye];exact List.getElem?_eq_getElem hltk
     have KYI:=hiQ hyi;clear hel hxa hcs hyi hbb;subst hAe;have hbn:=HBM.out.next hlt hltk hiM;rw [← hxe,← hye] at hbn hset;have HBN:=hiQ hbn;have hd0:decide ((i:Int) < 0)=false:=by simp
     have hd1:decide (ts.length≤i)=false:=by simpa using hlt
     have hd2:decide ((k:Int) < 0)=false:=by simp
     have hd3:decide (us.length≤k)=false:=by simpa using hltk
     have HFZ:=hiQ hbf;have HRW:=hiQ hrow;clear hrow hbn hbf hbc hxe hye;have ajw:=SA.out.e0;clear ajw;go_upto_region 9 with fail;clear hrc;have ajw:=SA.out.e0;have ajW:=SB.out.e0;refine l9 (S:=(fun w' => w'.cell? ⟨w.heap.size,0,none⟩=some (.slice (some ⟨bx,ox,none⟩) ts.length c)∧w'.cell? ⟨w.heap.size+1,0,none⟩=some (.slice (some ⟨ba2,oa2,none⟩) us.length c')∧(w'.cell? ⟨rb,i,none⟩=some (.slice (some ⟨rg,0,none⟩) us.length cu))∧(aoj w' bx (ox+i*10) x (.slice C1 x.syms.length l1) (.slice C2 x.ah.length l2))∧(aoj w' ba2 (oa2+k*10) y (.slice D1 y.syms.length m1) (.slice D2 y.ah.length m2)))) (fun j => j == 18) (by kernel_rfl) ⟨ajw,ajW,(KC.out.now),(KX.out.now.2),(KY.out.now.2)⟩ (fun hHeld => ?_);clear ajw ajW;have hb5:Below wr.heap.size wr (wr.drew):=(Below.refl _ _).drew;obtain ⟨SA,SB,TB,KC,KX,KY⟩:=b6 SA SB TB KC KX KY hb5;replace hb0:=dT hb0 hb5;clear hb5;generalize wr.drew=wL at *;refine eH 0 ?_;refine eH 1 ?_;refine eH 2 ?_;refine eH 3 ?_;refine eH 4 ?_;refine eH 5 ?_;refine eH 6 ?_;refine eH 7 ?_;refine eH 8 ?_;refine eH 9 ?_;refine eH 10 ?_;refine eH 11 ?_;refine eH 12 ?_;refine eH 13 ?_;refine eH 14 ?_;refine eH 15 ?_;refine gJ 16 fun K hK => ?_;go_simp;((with_reducible refine (axF x y _ _ _ _ _ (KX.out.now.1.up KX.out.le) (KY.out.now.1.up KY.out.le)).mono ?_);rintro e jC ⟨rfl,hb8⟩);obtain ⟨SA,SB,TB,KC,KX,KY⟩:=b6 SA SB TB KC KX KY hb8;replace hb0:=dT hb0 hb8;clear hb8;(try clear hHeld);refine hK.out _ _ (⟨SA.out.cell 0,⟨SB.out.cell 0,⟨(KC.out.now),⟨(KX.out.now.2),(KY.out.now.2)⟩⟩⟩⟩) (fun hHeld => ?_)
     clear hK K;refine eH 17 ?_;refine pG 18 fun K hK => ?_;have hrow2:=TB.out.now.rowAt hiM KC.out.now;have hset:=hrow2.set rg cu k (nT x y) (by rw [hln]);have aE7:jC.frozen? ⟨rg,k,none⟩=false:=by
      have ho:=hrow2.own;rw [hln] at ho;exact ho.frozenAt k
     obtain ⟨rg3,cv3,aE8,-,-,-,aC1,-⟩:=hrow2.pos (k:=k) (by rw [hln];exact hltk);injection aE8 with e1 e2 e3;injection e1 with e1;injection e1 with e1 e4 e5;subst e1;have aBa:=aC1;clear aC1;generalize M[i][k]=zb at aBa;have J7:=hiQ hset;have HLN:=hiQ hln;clear hrow2 hset e4 e5 e2 e3;go_simp;have hset:=J7.out;clear KC KX KY TB;generalize HEX:jC.setCell ⟨rg,k,none⟩ (.bool (nT x y))=nM;obtain ⟨SA,SB⟩:=f2 SA SB (eF HEX);replace hb0:=tf hb0 HEX;rw [HEX] at hset;clear HEX;(try clear hHeld);refine hK.out _ _ ?_;clear hK K;refine akJ (by kernel_rfl) ?_ _;(try clear hHeld);have asW:=hiQ hset;clear hset aE7 aBa;go_wp2_with fail;go_roundw
     case rel => exact ⟨k+1,by omega,by go_num,_,HBN.out,⟨SA.out,SB.out,asW.out,hb0⟩⟩
     case measure => simp [intOf];omega
    obtain rfl:k=us.length:=by omega
    have hbn:=HBM.out.row;have HBN:=hiQ hbn;have hd0:decide ((i:Int) < 0)=false:=by simp
    have hd1:decide (ts.length≤i)=false:=by simpa using hlt
    have hcr:=KC.out.now;clear hbn HBM hrow hrc;go_wp2_with fail;go_roundw
    case rel => exact ⟨i+1,by omega,by go_num,_,HBN.out,⟨SA.out,SB.out,TB.out.now,hb0⟩⟩
    case measure => simp [intOf];omega
  obtain rfl:i=ts.length:=by omega
  have hbn:=HBM.out.done;have HBN:=hiQ hbn;clear hbn HBM;go_upto_region 11 with fail;have avf:an7 w wr A E ts.length us.length c c' rb M:=⟨SA.out,SB.out,TB.out.now,hb0⟩
  go_loopg [10] (2*M.cnt+1) (fun gk s10 wr => ∃ (ch:Bool) (M:Tab),s10 = .bool ch∧gk=2*M.cnt+(if ch then 1 else 0)∧aqV ts us M∧(ch=false→aly ts us M ts.length 0)∧an7 w wr A E ts.length us.length c c' rb M)
  case atStart => exact ⟨true,M,rfl,rfl,HBN.out,fun h => (by cases h),avf⟩
  case round =>
   clear avf HBN SA SB TB hb0;obtain ⟨ch,M,rfl,hgk,hinv,asV,Ai⟩:=hrel;cases ch with
   | false =>
    have hb0:=Ai.b;have SA:=Ai.sa;have SB:=Ai.sb;have hTA:=Ai.t;replace SA:=hiQ SA;replace SB:=hiQ SB;have TB:=hiQ (Kept.tab hTA);clear hTA;have hfin:=avg hinv.2.1 hinv.2.2 (asV rfl);have HFI:=hiQ hfin;have HSH:=hiQ hinv.1;clear hfin hinv asV hgk;go_wp2_with fail;go_ret;exact ⟨rb,_,M,rfl,Ai.t.base (by omega),HSH.out,HFI.out,hb0⟩
   | true =>
    have HGK:=hiQ hgk;have HI0:=hiQ hinv;clear asV hgk hinv;go_wp2_with fail;have ao2:=Ai;have HI1:=hiQ HI0.out;go_loopw [10,11] (fun s10 s11 wr2 => ∃ (i:Nat) (b:Bool) (M':Tab),i≤ts.length∧s11 = .int .i64 i∧s10 = .bool b∧aqV ts us M'∧M'.cnt≤M.cnt∧(b=true→M'.cnt+1≤M.cnt)∧(b=false→aly ts us M' i 0)∧an7 w wr2 A E ts.length us.length c c' rb M') (fun _ s11 _ => ts.length - (intOf s11).toNat)
    case atStart => exact ⟨0,false,M,by omega,rfl,rfl,HI1.out,Nat.le_refl _,fun h => (by cases h),fun _ a b x y hab => (by omega),ao2⟩
    case round =>
     clear Ai ao2 HI1;obtain ⟨i,bb,M1,hi,rfl,rfl,hin1,hc1,hc2,avi,Ai⟩:=hrel;have hb0:=Ai.b;have SA:=Ai.sa;have SB:=Ai.sb;have hTA:=Ai.t;replace SA:=hiQ SA;replace SB:=hiQ SB;have TB:=hiQ (Kept.tab hTA);clear hTA;have FI:=hiQ hin1;have HC2:=hiQ hc2;have HSW:=hiQ avi;clear hin1 hc2 avi;by_cases hlt:i < ts.length
     ·
      have hi1:(i:Int) < ts.length:=by omega
      have ao6:=Ai;clear Ai;go_upto_region 17 with fail;have avj:=hiQ (fun h => HSW.out h);go_loopw [10,12] (fun s10 s12 wr2 => ∃ (k:Nat) (b0:Bool) (M':Tab),k≤us.length∧s12 = .int .i64 k∧s10 = .bool b0∧aqV ts us M'∧M'.cnt≤M.cnt∧(b0=true→M'.cnt+1≤M.cnt)∧(b0=false→aly ts us M' i k)∧an7 w wr2 A E ts.length us.length c c' rb M') (fun _ s12 _ => us.length - (intOf s12).toNat)
      case atStart => exact ⟨0,bb,M1,by omega,rfl,rfl,FI.out,hc1,HC2.out,avj.out,ao6⟩
      case round =>
       clear SA SB TB ao6 hb0 FI HC2 HSW avj hc1;obtain ⟨k,bb,M2,hk,rfl,rfl,hin2,hc1,hc2,amW,Ai⟩:=hrel;have hb0:=Ai.b;have SA:=Ai.sa;have SB:=Ai.sb;have hTA:=Ai.t;replace SA:=hiQ SA;replace SB:=hiQ SB;have TB:=hiQ (Kept.tab hTA);clear hTA Ai;have FI:=hiQ hin2;have HC2:=hiQ hc2;have HSW:=hiQ amW;clear hin2 hc2 amW;have hiM:i < M2.length:=by rw [FI.out.1.1];exact hlt
       have hln:M2[i].length=us.length:=FI.out.1.2 i hiM;obtain ⟨u,hrow⟩:=TB.out.now.row hiM;obtain ⟨Au,cu,rfl⟩:=hrow.form;have hrc:=hrow.cell;rw [hln] at hrc;have KC:=hiQ (Af hrc);have hd0:decide ((i:Int) < 0)=false:=by simp
       have hd1:decide (ts.length≤i)=false:=by simpa using hlt
       by_cases hltk:k < us.length
       ·
        have hi2:(k:Int) < us.length:=by omega
        obtain ⟨rg,cv,hrv,axo,axp,auW,hbc,hbf⟩:=hrow.pos (k:=k) (by rw [hln];exact hltk);injection hrv with e1 e2 e3;subst e1;have KB:=hiQ (Af hbc);have hRg:w.heap.size≠rg∧w.heap.size+1≠rg:=by omega
        obtain ⟨bx,ox,hAe,hbb,hel⟩:=HT.out.elem (by omega);obtain ⟨vs,vm,hcs,hxa⟩:=hel i hlt;replace hcs:=hcs.below hb0 hbb;replace hxa:=hxa.keep (w':=wr) (fun p hp => (hb0).cell hp) (Nat.le_refl _);obtain ⟨x,hxe⟩ : ∃ x,x=ts[i]:=⟨_,rfl⟩
        rw [← hxe] at hcs hxa;obtain ⟨C1,l1,C2,l2,rfl,rfl,-,-⟩:=hxa.forms;have KX:=hiQ (Kept.rd (P:=fun w B => jc w B x (.slice C1 x.syms.length l1) (.slice C2 x.ah.length l2)∧NI w bx (ox+i*10) x (.slice C1 x.syms.length l1) (.slice C2 x.ah.length l2)) ⟨hxa,hcs⟩ (hb0).size (fun _ hk => ⟨hxa.keep hk (Nat.le_refl _),hcs.on hbb hk⟩));have hxi:ts[i]?=some x:=by rw [hxe];exact List.getElem?_eq_getElem hlt
        have KXI:=hiQ hxi;clear hel hxa hcs hxi hbb;subst hAe;obtain ⟨ba2,oa2,hAe,hbb,hel⟩:=HU.out.elem (by omega);obtain ⟨vs,vm,hcs,hxa⟩:=hel k hltk;replace hcs:=hcs.below hb0 hbb;replace hxa:=hxa.keep (w':=wr) (fun p hp => (hb0).cell hp) (Nat.le_refl _);obtain ⟨y,hye⟩ : ∃ x,x=us[k]:=⟨_,rfl⟩
        rw [← hye] at hcs hxa;obtain ⟨D1,m1,D2,m2,rfl,rfl,-,-⟩:=hxa.forms;have KY:=hiQ (Kept.rd (P:=fun w B => jc w B y (.slice D1 y.syms.length m1) (.slice D2 y.ah.length m2)∧NI w ba2 (oa2+k*10) y (.slice D1 y.syms.length m1) (.slice D2 y.ah.length m2)) ⟨hxa,hcs⟩ (hb0).size (fun _ hk => ⟨hxa.keep hk (Nat.le_refl _),hcs.on hbb hk⟩));have hyi:us[k]?=some y:=by rw [hye];exact List.getElem?_eq_getElem hltk
        have KYI:=hiQ hyi;clear hel hxa hcs hyi hbb;subst hAe;have hd2:decide ((k:Int) < 0)=false:=by simp
        have hd3:decide (us.length≤k)=false:=by simpa using hltk
        have hkM:k < M2[i].length:=by rw [hln];exact hltk
        have aoi:M2.at_ i k=M2[i][k]:=by simp [Tab.at_,List.getD,hiM,hkM]
        have aC2:=hiQ aoi;clear hrow hbf hxe hye aoi;go_upto_region 19 with fail;clear hrc hbc;obtain ⟨bt,hbt⟩ : ∃ bt,bt=M2[i][k]:=⟨_,rfl⟩
        have HAT:Hid (M2.at_ i k=bt):=by show _=_;rw [aC2.out,hbt]
        rw [← hbt] at KB;clear aC2 hbt;have HLN:=hiQ hln;clear hln hkM e2 e3;cases bt with
        | false =>
         have hsw:=fun h => (HSW.out h).next KXI.out KYI.out (fun h2 => by rw [HAT.out] at h2;cases h2);have aqt:=hiQ hsw;clear hsw HSW;refine wp_region_held_drew (S:=(fun w' => (w'.cell? ⟨rb,i,none⟩=some (.slice (some ⟨rg,0,none⟩) us.length cu))∧(w'.cell? ⟨rg,k,none⟩=some (.bool false)))) (by kernel_rfl) ⟨(KC.out.now),(KB.out.now)⟩ (fun hHeld => ?_);have hb4:Below wr.heap.size wr (wr.drew):=(Below.refl _ _).drew;obtain ⟨SA,SB,TB,KC,KB,KX,KY⟩:=b7 SA SB TB KC KB KX KY hb4;replace hb0:=dT hb0 hb4;clear hb4;generalize wr.drew=fG at *;refine tk 0 ?_;refine tk 1 ?_;refine tk 2 ?_;refine tk 3 ?_;refine tk 4 ?_;refine tk 5 ?_;refine tk 6 ?_;refine tk 7 ?_;refine tks 8 ?_;simp only [aF];refine tks 9 ?_;simp only [aF];refine tks 10 ?_;simp only [aF];refine tks 11 ?_;simp only [aF];refine tks 12 ?_;simp only [aF];refine tks 13 ?_;simp only [aF];refine tks 14 ?_;simp only [aF];refine tks 15 ?_;simp only [aF];refine tks 16 ?_;simp only [aF];refine tks 17 ?_;simp only [aF];refine tks 18 ?_;simp only [aF];refine tks 19 ?_;simp only [aF];refine tks 20 ?_;simp only [aF];refine tk 21 ?_;refine wpAnyH_done (by kernel_rfl) ?_ _;(try clear hHeld);clear KX KY KC KB;exact zFj
        | true =>
         have hal:Alike x y:=by
          obtain ⟨x',y',hx',hy',ha⟩:=FI.out.2.2 i k HAT.out;rw [KXI.out] at hx';injection hx' with hx';rw [KYI.out] at hy';injection hy' with hy';subst hx';subst hy';exact ha
         have HUL:=hiQ (aup hal);have hxm:x ∈ ts:=List.mem_of_getElem? KXI.out;have hym:y ∈ us:=List.mem_of_getElem? KYI.out;have hmx:=HM1.out x hxm;have hmy:=EC.out y hym;have HIX:=hiQ (HI1.out x hxm);have HIY:=hiQ (HI2.out y hym);have hsh2:M2.shape ts.length us.length:=FI.out.1;have aC3:=hiQ hsh2;clear hal hxm hym hsh2;have ajw:=SA.out.e0;have ajW:=SB.out.e0;refine wp_region_held_drew (S:=(fun w' => w'.cell? ⟨w.heap.size,0,none⟩=some (.slice (some ⟨bx,ox,none⟩) ts.length c)∧w'.cell? ⟨w.heap.size+1,0,none⟩=some (.slice (some ⟨ba2,oa2,none⟩) us.length c')∧(w'.cell? ⟨rb,i,none⟩=some (.slice (some ⟨rg,0,none⟩) us.length cu))∧(w'.cell? ⟨rg,k,none⟩=some (.bool true))∧(aoj w' bx (ox+i*10) x (.slice C1 x.syms.length l1) (.slice C2 x.ah.length l2))∧(aoj w' ba2 (oa2+k*10) y (.slice D1 y.syms.length m1) (.slice D2 y.ah.length m2)))) (by kernel_rfl) ⟨ajw,ajW,(KC.out.now),(KB.out.now),(KX.out.now.2),(KY.out.now.2)⟩ (fun hHeld => ?_);clear ajw ajW;have hb4:Below wr.heap.size wr (wr.drew):=(Below.refl _ _).drew;obtain ⟨SA,SB,TB,KC,KB,KX,KY⟩:=b7 SA SB TB KC KB KX KY hb4;replace hb0:=dT hb0 hb4;clear hb4;generalize wr.drew=fG at *;refine tk 0 ?_;refine tk 1 ?_;refine tk 2 ?_;refine tk 3 ?_;refine tk 4 ?_;refine tk 5 ?_;refine tk 6 ?_;refine tk 7 ?_;refine tk 8 ?_;refine tk 9 ?_;refine tk 10 ?_;refine tk 11 ?_;refine tk 12 ?_;refine tk 13 ?_;refine tk 14 ?_;refine tk 15 ?_;refine tk 16 ?_;refine tk 17 ?_;refine tk 18 ?_;refine iE 19 fun K hK => ?_;go_simp;((with_reducible refine (avO M2 x y _ _ _ _ ts.length us.length ts.length (w.heap.size+2) rb _ aC3.out hmx hmy HUL.out HIX.out HIY.out (KX.out.now.1.up KX.out.le) (KY.out.now.1.up KY.out.le) TB.out.now).mono ?_);rintro e wL ⟨rfl,hb7⟩)
         obtain ⟨SA,SB,TB,KC,KB,KX,KY⟩:=b7 SA SB TB KC KB KX KY hb7;replace hb0:=dT hb0 hb7;clear hb7;(try clear hHeld);refine hK.out _ _ (⟨SA.out.cell 0,⟨SB.out.cell 0,⟨(KC.out.now),⟨(KB.out.now),⟨(KX.out.now.2),(KY.out.now.2)⟩⟩⟩⟩⟩) (fun hHeld => ?_);clear hK K;refine tk 20 ?_;refine tk 21 ?_;refine wpAnyH_done (by kernel_rfl) ?_ _;(try clear hHeld);clear KX KY HIX HIY hmx hmy HUL aC3;cases hrl:aoX M2 (outs x) (outs y) with
         | true =>
          have hsw:=fun h => (HSW.out h).next KXI.out KYI.out (fun _ => hrl);have aqt:=hiQ hsw;clear hsw HSW hrl KC KB;exact zFj
         | false =>
          have avl:aqV ts us (M2.off i k):=⟨Tab.aur FI.out.1 i k,FI.out.2.1.off KXI.out KYI.out hrl,FI.out.2.2.off i k⟩
          have hcn:=Tab.awT HAT.out;have azH:=hiQ avl;clear avl hrl HSW;have hrow:=TB.out.now.rowAt hiM KC.out.now;have hset:=hrow.set rg cu k false (by rw [FI.out.1.2 i hiM]);have hoff:M2.set i (M2[i].set k false)=M2.off i k:=by unfold Tab.off;simp [List.getD,hiM]
          rw [hoff] at hset;have J7:=hiQ hset;have hbf:wL.frozen? ⟨rg,k,none⟩=false:=by
           have ho:=hrow.own;rw [FI.out.1.2 i hiM] at ho;exact ho.frozenAt k
          have hbc:=KB.out.now;have hrc:=KC.out.now;clear hrow hoff hset;go_upto_region 21 with fail;clear hrc hbc hbf;have hset:=J7.out;clear KC KB TB;generalize HEX:wL.setCell ⟨rg,k,none⟩ (.bool false)=qP;obtain ⟨SA,SB⟩:=f2 SA SB (eF HEX);replace hb0:=tf hb0 HEX;rw [HEX] at hset;clear HEX J7;have asW:=hiQ hset;clear hset;go_wp2_with fail;go_roundw
          case rel => exact ⟨k+1,true,M2.off i k,by omega,by go_num,rfl,azH.out,by omega,fun _ => by omega,fun h => (by cases h),⟨SA.out,SB.out,asW.out,hb0⟩⟩
          case measure => simp [intOf];omega
       obtain rfl:k=us.length:=by omega
       have hsw:=fun h => (HSW.out h).row;have aqt:=hiQ hsw;clear hsw HSW hrow;go_wp2_with fail;go_roundw
       case rel => exact ⟨i+1,bb,M2,by omega,by go_num,rfl,FI.out,hc1,HC2.out,aqt.out,⟨SA.out,SB.out,TB.out.now,hb0⟩⟩
       case measure => simp [intOf];omega
     obtain rfl:i=ts.length:=by omega
     have hg:=HGK.out;go_wp2_with fail;go_roundg (2*M1.cnt+(if bb then 1 else 0))
     case measure =>
      exact zGe
     case rel => exact ⟨bb,M1,rfl,rfl,FI.out,HSW.out,⟨SA.out,SB.out,TB.out.now,hb0⟩⟩
end Go.Proofs.YtlamhkffnlgofaaGreatDoor
