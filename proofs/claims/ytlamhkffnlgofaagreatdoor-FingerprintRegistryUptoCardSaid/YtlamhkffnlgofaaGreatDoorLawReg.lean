/- The statement FingerprintRegistry, its second form: a registry never holds two roots that are wire-equivalent, and Find finds each. No condition. -/
import Derived.Test.YtlamhkffnlgofaaGreatDoorHBM
import Derived.Test.YtlamhkffnlgofaaGreatDoorHCI
import Derived.Deep.DeepHandedRow
import Derived.Deep.DeepWitnessRowRef
set_option maxHeartbeats 4000000
set_option maxRecDepth 100000
namespace Go.Proofs.YtlamhkffnlgofaaGreatDoor
open Go.ChangeMaps (open_string shut_string)
open Go.ChangeShapes Go.WideShapes Go.ChangeAt Go.RowKit
def aNX (rs:List OB):Prop := ∀ x ∈ rs,Sizes x.1∧akg x.1∧aDS x.1
theorem aKi {w:World} {B:Nat} {cs:List Value} {rs:List OB} (h:AV w B cs rs):∀ x ∈ rs,akg x.1:=fun x hx => by
 obtain ⟨k,hk,rfl⟩:=List.getElem_of_mem hx;obtain ⟨A,c,_,_,h3⟩:=h.2 k hk;exact aH4 h3
theorem aEB (src:List OB) (cs0:List Value) (vl:Value) (hn:src.length≤140737488351232) (hS:∀ x ∈ src,Sizes x.1) (hsm:∀ x ∈ src,aDS x.1) (w:World) (hp:aj0 w) (hr:Rd w w.heap.size 2 vl src.length cs0) (hrt:AV w w.heap.size cs0 src) :
  Calls Tryz.prog 4 #[vl] w fun e w' => e = .returned (.bool true)∧Below w.heap.size w w':=by
 have hI:=aKi hrt;have HP:=hiQ hp;have HR:=hiQ hr;have HRT:=hiQ hrt;have HF:=hiQ (fun W h1 h2 => aIj src cs0 vl W hn h1 h2);have HS:=hiQ hS;have HOF:=hiQ (show ∀ x ∈ src,∀ (A:Option Addr) (c:Nat) (W:World),aj0 W→aU W W.heap.size (.slice A x.1.length c) x.1→Calls Tryz.prog 16 #[.agg #[.slice A x.1.length c,.int .i64 x.2]] W fun e w' => e = .returned (.tuple #[.int .u64 ((fpE x.1 x.2).1:Nat),.int .i64 (fpE x.1 x.2).2])∧Below W.heap.size W w' from
  fun x hx A c W h1 h2 => aAp x.1 A c x.2 W (aGf (hsm x hx)) (fun W2 h => aJ3 (hS x hx) (hI x hx) (hsm x hx) (h1.on h) (h2.on h)))
 have HRO:=hiQ (show ∀ x ∈ src,∀ (A:Option Addr) (c:Nat) (W:World),aj0 W→aU W W.heap.size (.slice A x.1.length c) x.1→Calls Tryz.prog 24 #[.agg #[.slice A x.1.length c,.int .i64 x.2]] W fun e w' => e = .returned (.tuple #[.int .u64 ((fpE x.1 x.2).1:Nat),.int .i64 (fpE x.1 x.2).2])∧Below W.heap.size W w' from
  fun x hx A c W h1 h2 => aHY x.1 A c x.2 W (aGf (hsm x hx)) (fun W2 h => aIK (hS x hx) (hI x hx) (hsm x hx) (h1.on h) (h2.on h)))
 have HAD:=hiQ (show ∀ (rs:List OB) (cs:List Value) (v:Value) (x:OB) (A:Option Addr) (c:Nat) (W:World),rs.length≤6→aFB src rs→x ∈ src→aj0 W→Rd W W.heap.size 2 v rs.length cs→AV W W.heap.size cs rs→aU W W.heap.size (.slice A x.1.length c) x.1→Calls Tryz.prog 12 #[v,.agg #[.slice A x.1.length c,.int .i64 x.2]] W (azx (atd rs cs x.1 A c x.2) (aj2 x.1 x.2).2 W) from
  fun rs cs v x A c W h6 hok hx h1 h2 h3 h4 => aHM rs cs v x.1 A c x.2 W (by omega) (fun y hy => hS y (hok.1 y hy).1) (hS x hx) h2 h3 h4 (fun W2 h => aJ3 (hS x hx) (hI x hx) (hsm x hx) (h1.on h) (h4.on h)))
 have HWR:=hiQ (show ∀ (x y:OB),x ∈ src→y ∈ src→∀ (A E:Option Addr) (c d:Nat) (W:World),aU W W.heap.size (.slice A x.1.length c) x.1→aU W W.heap.size (.slice E y.1.length d) y.1→Calls Tryz.prog 15 #[.agg #[.slice A x.1.length c,.int .i64 x.2],.agg #[.slice E y.1.length d,.int .i64 y.2]] W fun e w' => e = .returned (.bool (aot x.1 x.2 y.1 y.2))∧Below W.heap.size W w' from
  fun x y hx hy A E c d W h1 h2 => azz x.1 y.1 A E c d x.2 y.2 W (hS x hx) (hS y hy) h1 h2)
 unfold azx at HAD;clear hp hr hrt hsm hI hS hn;obtain ⟨AVL,cL,rfl,_⟩:=HR.out.form;go_enter Tryz.func4,Tryz.ntmps4
 go_wp2_with fail;((with_reducible refine (Eb _ HP.out).mono ?_);rintro e wd1 ⟨rfl,hb2⟩);have hw3:=hb2;clear hb2;go_wp2_with fail;((with_reducible refine (HF.out _ (ayc HR.out hw3) (HRT.out.on hw3)).mono ?_);rintro e wd4 ⟨⟨b1,rfl,hb1⟩,hb5⟩);replace hw3:=dT hw3 hb5;clear hb5;cases b1 with
 | false =>
  go_wp2_with fail;((with_reducible refine (Eb _ (HP.out.on hw3)).mono ?_);rintro e wL ⟨rfl,hb7⟩);replace hw3:=dT hw3 hb7;clear hb7;exact zCm
 | true =>
  have h6:=(hb1 rfl).1;clear hb1 HF;go_upto_region 5 with fail;have aD4:=hw3;go_loopw [3,25] (fun s3 s25 wr => ∃ (k:Nat) (rs:List OB) (cs:List Value),s25 = .int .i64 k∧k≤src.length∧rs.length≤k∧aFB src rs∧Rd wr wr.heap.size 2 s3 rs.length cs∧AV wr wr.heap.size cs rs∧Below w.heap.size w wr) (fun _ s25 _ => src.length - (intOf s25).toNat)
  case atStart => exact ⟨0,[],[],rfl,Nat.zero_le _,Nat.le_refl _,aFB.nil _,Rd.nil_ _ _ _,AV.nil _ _,aD4⟩
  case round =>
   clear aD4;obtain ⟨k,rs,cs,rfl,hk,hrk,hok,hrd,hrr,hb⟩:=hrel;obtain ⟨AR,cR,rfl,_⟩:=hrd.form;have RL:=hiQ (Kept.rd (P:=fun w B => Rd w B 2 (.slice AR rs.length cR) rs.length cs) hrd (Nat.le_refl _) (fun _ hk => hrd.keep hk));have RT:=hiQ (Kept.rd (P:=fun w B => AV w B cs rs) hrr (Nat.le_refl _) (fun _ hk => hrr.keep hk (Nat.le_refl _)));have XK:=hiQ hok;clear hrd hrr hok;by_cases hlt:k < src.length
   ·
    obtain ⟨b,o,A1,c1,hA,hbb,x0,x1,hx⟩:=Y7 HR.out HRT.out k hlt;have hmem:=List.getElem_mem hlt;replace x0:=(hb.cell (p:=⟨b,_,none⟩) hbb).trans x0;replace x1:=(hb.cell (p:=⟨b,_,none⟩) hbb).trans x1;generalize src[k]=x at *;obtain ⟨ts,t⟩:=x;simp only at x0 x1 hx;have HX:=hiQ hx;have HM:=hiQ hmem;have HA2:=hiQ (HAD.out rs cs (.slice AR rs.length cR) (ts,t) A1 c1);simp only at HA2;have hi1:(k:Int) < src.length:=by omega
    have hd0:decide ((k:Int) < 0)=false:=by simp
    have hd1:decide (src.length≤k)=false:=by simpa using hlt
    clear hx hmem;subst hA;go_upto_region 7 with fail;refine aO (fun jC hb6 P => ?_);have kH:=RL.out.le;have oC:=RT.out.le;have sH:=hb.size;obtain ⟨RL,RT⟩:=b2 RL RT hb6;replace hb:=dT hb hb6;clear hb6;generalize wr.heap.size=g8 at *;clear x0 x1;obtain ⟨afM,XD⟩:=P.out.c2;go_wp2_with fail;clear afM XD;((with_reducible refine (HA2.out _ (by omega) XK.out HM.out (HP.out.on hb) (RL.out.now.mono RL.out.le) (RT.out.now.keep (fun _ _ => rfl) RT.out.le) (HX.out.on hb)).mono ?_);rintro e lZ ⟨⟨va,rfl,hra⟩,kR⟩);obtain ⟨P,RL,RT⟩:=b3 P RL RT kR;replace hb:=dT hb kR;clear kR;by_cases hbe:(aj2 ts t).2=0
    ·
     have hq:=aKO (cs:=cs) (A:=A1) (c:=c1) XK.out HM.out hbe;have aEJ:=aIL (t:=t) (RT.out.now.keep (fun _ _ => rfl) RT.out.le) (HX.out.on hb);simp only [hbe] at hra ⊢;generalize atd rs cs ts A1 c1 t=q at *;obtain ⟨qs,qc,qi⟩:=q;simp only at hra aEJ hq ⊢;obtain ⟨hq1,hq2,i,y,rfl,hqi,hqw⟩:=hq;have hil:=(List.getElem?_eq_some_iff.1 hqi).1;have hyi:qs[i]=y:=(List.getElem?_eq_some_iff.1 hqi).2;obtain ⟨AQ,cQ,rfl,_⟩:=hra.form;obtain ⟨b3,o3,A3,c3,hA3,hb3,z0,z1,hz⟩:=Y7 hra aEJ i hil;rw [hyi] at z0 z1 hz;have hym:=(hq1.1 y (List.mem_of_getElem? hqi)).1;obtain ⟨us,u⟩:=y;simp only at z0 z1 hz hqw;have HW2:=hiQ (HWR.out (us,u) (ts,t) hym HM.out A3 A1 c3 c1);simp only [hqw] at HW2;subst hA3;obtain ⟨z,hzz⟩ : ∃ z,z=lZ.heap.size:=⟨_,rfl⟩
     clear RL RT;have aI8:=hra;have aLT:=aEJ;rw [← hzz] at hra aEJ hz hb3;have QRL:=hiQ (Kept.rd (P:=fun w B => Rd w B 2 (.slice (some ⟨b3,o3,none⟩) qs.length cQ) qs.length qc) hra (Nat.le_of_eq hzz) (fun _ hk => hra.keep hk));have QRT:=hiQ (Kept.rd (P:=fun w B => AV w B qc qs) aEJ (Nat.le_of_eq hzz) (fun _ hk => aEJ.keep hk (Nat.le_refl _)));have QX:=hiQ (Kept.rd (P:=fun w B => aU w B (.slice A3 us.length c3) us∧w.cell? ⟨b3,o3+i*2,none⟩=some (.slice A3 us.length c3)∧w.cell? ⟨b3,o3+i*2+1,none⟩=some (.int .i64 u)) ⟨hz,z0,z1⟩ (Nat.le_of_eq hzz) (fun w' hk => ⟨hz.keep hk (Nat.le_refl _),(hk ⟨b3,_,none⟩ hb3).trans z0,(hk ⟨b3,_,none⟩ hb3).trans z1⟩));have HQ1:=hiQ hq1;have hi0:¬ ((i:Int) < 0):=by omega
     have hi2:(i:Int) < qs.length:=by omega
     have hi3:decide ((i:Int) < 0)=false:=by simp
     have hi4:decide (qs.length≤i)=false:=by simpa using hil
     have hi5:decide ((qs.length:Int)≤(i:Int))=false:=by simpa using hil
     clear hra aEJ hz hzz aI8 aLT hq1 hqi hyi hym hqw z0 z1 hb3;go_upto_region 9 with fail;obtain ⟨afM,XD⟩:=P.out.c2;refine wp_region_held_drew (S:=(fun w' => w'.cell? ⟨g8,0,none⟩=some (.slice A1 ts.length c1)∧w'.cell? ⟨g8,1,none⟩=some (.int .i64 t)∧(w'.cell? ⟨b3,o3+i*2,none⟩=some (.slice A3 us.length c3))∧(w'.cell? ⟨b3,o3+i*2+1,none⟩=some (.int .i64 u)))) (by kernel_rfl) ⟨afM,XD,(QX.out.now.2.1),(QX.out.now.2.2)⟩ (fun hHeld => ?_);clear afM XD;have jh:Below lZ.heap.size lZ (lZ.drew):=(Below.refl _ _).drew;obtain ⟨P,QRL,QRT,QX⟩:=b4 P QRL QRT QX jh;replace hb:=dT hb jh;clear jh;generalize lZ.drew=jA at *;refine tk 0 ?_;refine tk 1 ?_;refine tk 2 ?_;refine tk 3 ?_;refine tk 4 ?_;refine tk 5 ?_;refine tk 6 ?_;refine tk 7 ?_;refine tk 8 ?_;refine tk 9 ?_;refine tk 10 ?_;refine tk 11 ?_;refine tk 12 ?_;refine tk 13 ?_;refine iE 14 fun K hK => ?_;go_simp;((with_reducible refine (HW2.out _ (QX.out.now.1.keep (fun _ _ => rfl) QX.out.le) (HX.out.on hb)).mono ?_);rintro e yN ⟨rfl,mG⟩);obtain ⟨P,QRL,QRT,QX⟩:=b4 P QRL QRT QX mG;replace hb:=dT hb mG;clear mG;(try clear hHeld);refine hK.out _ _ (⟨P.out.cell 0,⟨P.out.cell 1,⟨(QX.out.now.2.1),(QX.out.now.2.2)⟩⟩⟩) (fun hHeld => ?_);clear hK K;refine tk 15 ?_;refine tk 16 ?_;refine wpAnyH_done (by kernel_rfl) ?_ _;(try clear hHeld);go_wp2_with fail;go_roundw
     case rel => exact ⟨k+1,qs,qc,by go_num,by omega,by omega,HQ1.out,QRL.out.now.mono QRL.out.le,QRT.out.now.keep (fun _ _ => rfl) QRT.out.le,hb⟩
     case measure => simp [intOf];omega
    have t1:((aj2 ts t).2 == 0)=false:=by simpa using hbe
    clear hbe hra;generalize (aj2 ts t).2=ne at *;go_wp2_with fail;go_roundw
    case rel => exact ⟨k+1,rs,cs,by go_num,by omega,by omega,XK.out,RL.out.now.mono RL.out.le,RT.out.now.keep (fun _ _ => rfl) RT.out.le,hb⟩
    case measure => simp [intOf];omega
   obtain rfl:k=src.length:=by omega
   go_upto_region 14 with fail;have Ox:rs.length≤6:=by omega
   have hrd:=RL.out.now.mono RL.out.le;have hrr:=RT.out.now.keep (fun _ _ => rfl) RT.out.le;have aD4:=hb;have HRD:=hiQ hrd;have HRR:=hiQ hrr;clear hrd hrr RL RT;obtain ⟨WBB,hWB⟩ : ∃ x,x=wr:=⟨_,rfl⟩
   rw [← hWB] at HRD HRR aD4 ⊢;clear hWB;have HP2:=hiQ (HP.out.on aD4);go_loopw [59] (fun s59 wr => ∃ k:Nat,s59 = .int .i64 k∧k≤rs.length∧Below WBB.heap.size WBB wr) (fun s59 _ => rs.length - (intOf s59).toNat)
   case atStart => exact ⟨0,rfl,Nat.zero_le _,Below.refl _ _⟩
   case round =>
    obtain ⟨k,rfl,hk2,hb2⟩:=hrel;by_cases hlt2:k < rs.length
    ·
     obtain ⟨b,o,A1,c1,hA,hbb,x0,x1,hx⟩:=Y7 HRD.out HRR.out k hlt2;have hget:=List.getElem?_eq_getElem hlt2;replace x0:=(hb2.cell (p:=⟨b,_,none⟩) hbb).trans x0;replace x1:=(hb2.cell (p:=⟨b,_,none⟩) hbb).trans x1;generalize rs[k]=x at *;have hmem:=XK.out.1 x (List.mem_of_getElem? hget);obtain ⟨ts,t⟩:=x;simp only at x0 x1 hx hmem;have HX:=hiQ hx;have HM:=hiQ hmem;have HG:=hiQ hget;have hi1:(k:Int) < rs.length:=by omega
     have hd0:decide ((k:Int) < 0)=false:=by simp
     have hd1:decide (rs.length≤k)=false:=by simpa using hlt2
     clear hx hmem hget;subst hA;go_upto_region 16 with fail;refine aO (fun jC hb6 P => ?_);have kH:=hb2.size;replace hb2:=dT hb2 hb6;clear hb6;generalize wr.heap.size=g8 at *;obtain ⟨gP,rfl⟩ : ∃ g,g=g8:=⟨_,rfl⟩
     clear x0 x1;go_upto_region 17 with fail;have hP0:=P.out;have aLG:=hb2;go_loopw [65] (fun s65 wr => ∃ j:Nat,s65 = .int .i64 j∧j≤k∧Below WBB.heap.size WBB wr∧Has wr gP 27 #[.slice A1 ts.length c1,.int .i64 t]) (fun s65 _ => k - (intOf s65).toNat)
     case atStart => exact ⟨0,rfl,Nat.zero_le _,aLG,hP0⟩
     case round =>
      clear P hP0 aLG;obtain ⟨j,rfl,hj,hb3,P⟩:=hrel;replace P:=hiQ P;by_cases hlj:j < k
      ·
       obtain ⟨b4,o4,A4,c4,hA4,hb4,x0,x1,hz⟩:=Y7 HRD.out HRR.out j (by omega);injection hA4 with hA4;injection hA4 with hA5 hA6 _;subst hA5 hA6;have hgj:=List.getElem?_eq_getElem (show j < rs.length by omega);generalize rs[j]=y at *;have hym:=(XK.out.1 y (List.mem_of_getElem? hgj)).1;have hwf:=XK.out.2 j k y (ts,t) hlj hgj HG.out;obtain ⟨us,u⟩:=y;simp only at x0 x1 hz hwf;have HZ:=hiQ hz;have HW2:=hiQ (HWR.out (us,u) (ts,t) hym HM.out.1 A4 A1 c4 c1);simp only [hwf] at HW2;have hj1:(j:Int) < rs.length:=by omega
       have hj2:(j:Int) < k:=by omega
       have hj3:decide ((j:Int) < 0)=false:=by simp
       have hj4:decide (rs.length≤j)=false:=by simp;omega
       clear hz hgj hym hwf;go_upto_region 19 with fail;obtain ⟨afM,XD⟩:=P.out.c2;refine wp_region_held_drew (S:=(fun w' => w'.cell? ⟨gP,0,none⟩=some (.slice A1 ts.length c1)∧w'.cell? ⟨gP,1,none⟩=some (.int .i64 t)∧(∀ (b o:Nat),b < WBB.heap.size→w'.cell? ⟨b,o,none⟩=WBB.cell? ⟨b,o,none⟩))) (by kernel_rfl) ⟨afM,XD,(fun b o hlt => hb3.cell (p:=⟨b,o,none⟩) hlt)⟩ (fun hHeld => ?_);clear afM XD;have aY:Below wr.heap.size wr (wr.drew):=(Below.refl _ _).drew;replace P:=b1 P aY;replace hb3:=dT hb3 aY;clear aY;generalize wr.drew=dw at *;refine tk 0 ?_;refine tk 1 ?_;refine tk 2 ?_;refine tk 3 ?_;refine tk 4 ?_;refine iE 5 fun K hK => ?_;go_simp;((with_reducible refine (HW2.out _ (HZ.out.on hb3) (HX.out.on hb3)).mono ?_);rintro e lZ ⟨rfl,kR⟩);replace P:=b1 P kR;replace hb3:=dT hb3 kR;clear kR;(try clear hHeld);refine hK.out _ _ (⟨P.out.cell 0,⟨P.out.cell 1,(fun b o hlt => hb3.cell (p:=⟨b,o,none⟩) hlt)⟩⟩) (fun hHeld => ?_);clear hK K;refine wpAnyH_done (by kernel_rfl) ?_ _;(try clear hHeld);clear x0 x1;go_wp2_with fail;go_roundw
       case rel => exact ⟨j+1,by go_num,by omega,hb3,P.out⟩
       case measure => simp [intOf];omega
      obtain rfl:k=j:=by omega
      have hof:(fpE ts t).2=0:=by
       have hbe:=HM.out.2;unfold fpE;rw [if_neg (by simpa using hbe)]
      obtain ⟨f,hf⟩ : ∃ f,f=(fpE ts t).1:=⟨_,rfl⟩
      have hmm:=aHw (f:=f) HG.out ⟨hof,hf.symm⟩ rs.length (by omega);have hfl:=aEI rs f rs.length;have HO1:=hiQ (HOF.out (ts,t) HM.out.1 A1 c1);simp only [hof,← hf] at HO1;have HF1:=hiQ (fun (W:World) (hb:Below WBB.heap.size WBB W) => aKd rs cs (.slice (some ⟨b,o,none⟩) rs.length cR) f W (by omega) (ayc HRD.out hb) (HRR.out.on hb) (fun x hx A c W2 h2 h3 => HOF.out x (XK.out.1 x hx).1 A c W2 ((HP2.out.on hb).on h2) h3));have HF2:=hiQ (fun (W:World) (hb:Below WBB.heap.size WBB W) => aI7 rs cs (.slice (some ⟨b,o,none⟩) rs.length cR) f W (by omega) (ayc HRD.out hb) (HRR.out.on hb) (fun x hx A c W2 h2 h3 => HRO.out x (XK.out.1 x hx).1 A c W2 ((HP2.out.on hb).on h2) h3));generalize MV rs f rs.length=l at *;have HH:=hiQ (fun W v h => aKg l (k:Int) v W (by omega) h hmm);have FI:=hiQ (fun W v1 v2 h1 h2 => (aKc l l v1 v2 W (by omega) (by omega) h1 h2).mono (fun e w' (hh:e = .returned (.bool (decide (l=l)))∧Below W.heap.size W w') => show e = .returned (.bool true)∧Below W.heap.size W w' from ⟨by rw [hh.1];simp,hh.2⟩));clear hmm hof hf;obtain ⟨afM,XD⟩:=P.out.c2;go_wp2_with fail;clear afM XD;((with_reducible refine (HO1.out _ (HP2.out.on hb3) (HX.out.on hb3)).mono ?_);rintro e kL ⟨rfl,iR⟩);replace P:=b1 P iR;replace hb3:=dT hb3 iR;clear iR;go_wp2_with fail;obtain ⟨z1,hz1⟩ : ∃ z,z=kL.heap.size:=⟨_,rfl⟩
      ((with_reducible refine (HF1.out _ hb3).mono ?_);rintro e lZ ⟨⟨v1,rfl,ho1⟩,kR⟩);replace P:=b1 P kR;replace hb3:=dT hb3 kR;clear kR;rw [← hz1] at ho1;have O1:=hiQ (Kept.own ho1);clear ho1;go_wp2_with fail;((with_reducible refine (HH.out _ _ (own_base O1.out.now (Nat.zero_le _))).mono ?_);rintro e oZ ⟨rfl,o7⟩);obtain ⟨P,O1⟩:=b2 P O1 o7;replace hb3:=dT hb3 o7;clear o7;go_wp2_with fail;((with_reducible refine (HF2.out _ hb3).mono ?_);rintro e yN ⟨⟨v2,rfl,ho2⟩,mG⟩);obtain ⟨P,O1⟩:=b2 P O1 mG;replace hb3:=dT hb3 mG;clear mG;have ho3:=own_base ho2 (Nat.zero_le _);have ho4:=own_base O1.out.now (Nat.zero_le _);clear O1;go_wp2_with fail;((with_reducible refine (FI.out _ _ _ ho4 ho3).mono ?_);rintro e yx ⟨rfl,aln⟩);replace P:=b1 P aln;replace hb3:=dT hb3 aln;clear aln ho2 ho3 ho4;go_wp2_with fail;go_roundw
      case rel => exact ⟨k+1,by go_num,by omega,hb3⟩
      case measure => simp [intOf];omega
    obtain rfl:k=rs.length:=by omega
    go_wp2_with fail;go_ret;exact ⟨rfl,aD4.trans ((hb2).mono aD4.size)⟩

namespace fr_FingerprintRegistry
theorem reads (os:Os) {H:Type} (enc:TypeId × Value→H):∃ places,DataW.whole enc Tryz.prog ((World.doorLaid Tryz.prog 400 os).forCall (fun _ _ => 0) ⟨#[],#[.slice none 0 0],[]⟩).memory Tryz.f4.params.toList (Rows.OpenSpec.upto Rows.fingerprintRegistrySpec).vars false (#[.slice none 0 0] : Array Value).toList 8=some ([.nil],[],places) :=
  ⟨[],by kernel_rfl⟩
theorem lifted (os:Os) (started:os.Started) (H:Type) (enc:TypeId × Value→H) (F:Stop.Interp) :
    ReturnsInHanded {} Tryz.checked os 4 .any ((Rows.OpenSpec.upto Rows.fingerprintRegistrySpec).preRow enc Tryz.prog Tryz.f4 Rows.fingerprintRegistryUptoRow.domain false Rows.fingerprintRegistryUptoRow.laid) (((Rows.OpenSpec.upto Rows.fingerprintRegistrySpec).at F).post enc Tryz.prog Tryz.f4 false true false false):=by
  obtain ⟨places,hx⟩:=reads os enc;refine returnsInHanded_of_row (C:=Tryz.checked) (s:=Rows.OpenSpec.upto Rows.fingerprintRegistrySpec) ad3 started (by kernel_rfl) Tryz.func4
    (witness_row_atRef (enc:=enc) (C:=Tryz.checked) false (World.doorLaid Tryz.prog 400 os) #[.slice none 0 0] rfl (by kernel_rfl) (by kernel_rfl) (by kernel_rfl)
      (OpenSpec.preRow_of_cond 8 hx (by kernel_rfl) (fun k hk => by cases hk;kernel_rfl) (by kernel_rfl) (door_met os _))) ?_
  intro W base args ds gs before hval0 hW _ hcond hsz0 hLd _ _;have hsz:(DataW.weightsEach Tryz.prog (Tryz.f4.params.toList ++ Rows.fingerprintRegistrySpec.plain.varTypes Tryz.prog) (ds ++ gs)).all (· ≤ reachBytes)=true:=hsz0;have hbk:Rows.uptoSmall H (ds ++ gs)=true:=hcond _ rfl;have hval:∀ (j:Nat) t v,Tryz.f4.params[j]?=some t→args[j]?=some v→Value.okWide Tryz.prog W .any base t v:=hval0;have hW':=hW;have hlt:∀ p ∈ before,p.block < W.heap.size:=fun p hp => hW.lt p hp;obtain ⟨p,q,hA0,hV,rfl,hfz,hnd⟩:=hW;have hA:DataW.TrodAll enc Tryz.prog W 0 (fun _ => true) true Tryz.f4.params.toList args.toList ds p:=hA0;have hA2:=hA;rw [Tryz.params4] at hA hval hsz;obtain ⟨v0,vs0,d0,ds0,p0,q0,hargs,rfl,hpq,h0,r0⟩:=trodAll_cons hA;obtain ⟨rfl,rfl,rfl⟩:=trodAll_nil r0;obtain rfl:args = #[v0]:=by cases args;simp_all
  obtain ⟨rfl,rfl⟩:=trodVars_none hV;have hb0:Rows.uptoBulk d0≤1048576:=by simp only [Rows.uptoSmall,Rows.uptoBulkAll,List.append_nil,decide_eq_true_eq] at hbk;omega
  obtain ⟨a0,e0,m0,z0,b0,u0,y0⟩:=aHj (hval 0 22 v0 rfl rfl) h0 (ZG hsz (j:=0) rfl (by simp));have s0:∀ x ∈ a0,aDS x.1:=fun x hx y hy m hm => Nat.le_trans (b0 x hx y hy m hm) hb0;clear hA0 hval0;refine (aEB a0 e0 v0 m0 z0 s0 W (aho hLd) u0 y0).mono fun e W' ⟨he,bel⟩ => ?_;subst he;have hpost:Rows.fingerprintRegistrySpec.post enc Tryz.prog Tryz.f4 false true false false W _ (.bool true) W':=⟨_,_,_,[],_,[],hW',trodAll_mk1 (shut_bool Tryz.underlying4 _),UN ad4 bel _ _ _ _ (by kernel_rfl) hA2 (fun x hx => hlt x (by simpa using hx)),rfl,bel.frame _,fun h => by cases h⟩
  exact ⟨_,rfl,hpost⟩
theorem proved:Rows.FingerprintRegistryUptoSaid :=
  OpenClaim.holds_of_cond 4 Tryz.f4 rfl rfl rfl rfl rfl rfl rfl ⟨rfl,rfl,rfl,rfl,rfl⟩ rfl rfl rfl rfl rfl (by kernel_rfl) Tryz.func4 (by kernel_rfl)
    (of_decide_eq_true (by kernel_rfl)) (by unfold Func.isWrapper;first | (rw [if_pos (by decide +kernel)];kernel_rfl) | (rw [if_neg (by decide +kernel)];exact ⟨rfl,rfl⟩))
    (fun os started H enc _ F => by rw [OpenClaim.pre_eq_preRow];exact lifted os started H enc F)
theorem card:Rows.FingerprintRegistryUptoCardSaid :=
  Claim7.holds_tied_plain_at .later [] _ _ _ _ proved (fun _ h => by cases h) (by kernel_rfl) (fun _ h => by cases h) fingerprintRegistryUpto_row_tie rfl ⟨rfl,rfl⟩ (by kernel_rfl) rfl
    (fun f fn hf hfn => by
      obtain rfl:f=4:=Option.some.inj ((show Tryz.prog.funcNamed "sheave/sheavelaw19.FingerprintRegistry" = some 4 by kernel_rfl).symm.trans hf) |>.symm;obtain rfl:fn=Tryz.f4:=(Option.some.inj (Tryz.func4.symm.trans hfn)).symm;exact ⟨by kernel_rfl,fun j t ht => by
        rw [Tryz.params4] at ht;have hm:t ∈ [22]:=by simpa using Array.mem_of_getElem? ht
        have hall:([22].all fun u => !Tryz.prog.wantsStandIn u)=true:=by kernel_rfl
        exact (show Tryz.prog.wantsStandIn t=false by simpa using List.all_eq_true.1 hall t hm)⟩)
    (by kernel_rfl)
#print axioms card
end fr_FingerprintRegistry
end Go.Proofs.YtlamhkffnlgofaaGreatDoor
