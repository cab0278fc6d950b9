/- Schemas that come in. What sheaveref07.size and Few return: some number, some bool. No condition. -/
import Derived.Test.YtlamhkffnlgofaaGreatDoorHAF
import Derived.Test.YtlamhkffnlgofaaGreatDoorHAJ
set_option maxHeartbeats 4000000
set_option maxRecDepth 100000
namespace Go.Proofs.YtlamhkffnlgofaaGreatDoor
open Go.ChangeShapes Go.WideShapes Go.ChangeAt Go.RowKit Go.Joins
section
variable {H:Type} {enc:TypeId × Value→H} {w:World} {base:Nat} {spare:Nat→Bool} {held:Bool}
theorem aIJ (N:Nat) (cs:List Value) (D:DataW H) (Q:List MemPlace) (hl:cs.length=2)
  (h:DataW.trod enc Tryz.prog w base spare held N 105 cs=some (D,Q)) (hs:Sz 105 D):∃ x:Raw,cs=Kw x∧yR x:=by
 obtain ⟨xs,n,rfl,hx,_,hxl,hg⟩:=DataW.trod_struct Tryz.underlying105 h;obtain ⟨c0,c1,rfl⟩ : ∃ c0 c1,cs = [c0,c1]:=by
  match cs,hl with
  | [c0,c1],_ => exact ⟨c0,c1,rfl⟩
 match xs,hxl with
 | [y0,y1],_ =>
  injection hx with hx1 hx2;have k0:Tryz.prog.cellsOf 3=1:=by kernel_rfl
  have h0:DataW.trod enc Tryz.prog w base spare held n 3 (([c0,c1].drop 0).take (Tryz.prog.cellsOf 3))=some y0:=hg 0 _ rfl;rw [k0] at h0;have k1:Tryz.prog.cellsOf 9=1:=by kernel_rfl
  have h1:DataW.trod enc Tryz.prog w base spare held n 9 (([c0,c1].drop 1).take (Tryz.prog.cellsOf 9))=some y1:=hg 1 _ rfl;rw [k1] at h1;obtain ⟨n0,e0,_,w0⟩:=DataW.trod_int Tryz.underlying3 h0;obtain ⟨s1,e1,e1',_⟩:=DataW.trod_string Tryz.underlying9 h1;subst hx1;have sz1:=Sz.field hs Tryz.underlying105 (i:=1) rfl rfl;simp only [List.drop,List.take,List.cons.injEq,and_true] at e0 e1;subst e0 e1;obtain ⟨l1,rfl,aII⟩:=azu s1;have hsl1:l1.length≤140737488351232:=by
   rw [e1'] at sz1;simpa using sz1.str
  exact ⟨(n0,l1),rfl,wf_i64 w0,hsl1⟩
end
end Go.Proofs.YtlamhkffnlgofaaGreatDoor
namespace Go.Proofs.YtlamhkffnlgofaaGreatDoor
open Go.ChangeShapes Go.WideShapes Go.ChangeAt Go.RowKit
def aJ9 (w:World) (e:Ending) (w':World):Prop:=(∃ n:Int,e = .returned (.int .i64 n))∧Below w.heap.size w w'
def aIn (w:World) (e:Ending) (w':World):Prop:=(∃ b:Bool,e = .returned (.bool b))∧Below w.heap.size w w'
theorem zKs {p:Prop} (h:p:=by
 ((with_reducible refine (IH.out y _ _ _ _ (by omega) HA.out).mono ?_);rintro e wd4 ⟨⟨z,rfl⟩,hb5⟩);replace V:=b1 V hb5;replace hb:=dT hb hb5;clear hb5 d0 d1 d2 d3 d4 d5 d6 d7 hA;go_wp2_with fail;go_roundw
 case rel => exact ⟨k+1,_,by omega,by go_num,rfl,V.out,hb⟩
 case measure => simp [intOf];omega):p:=h
theorem aID:∀ (N:Nat) (x:Val) (vk vi vr:Value) (w:World),nodes x≤N→ValAt w w.heap.size x vk vi vr→Calls Tryz.prog 43 #[aS x vk vi vr] w (aJ9 w):=by
 intro N
 induction N with
 | zero => intro x vk vi vr w h;have:=zJ x;omega
 | succ N ih =>
  intro x vk vi vr w hN hv;have hle:=hv.lens;have hsl:=hv.AL;have HRW:=hiQ hv.Ie;obtain ⟨A1,n1,A2,n2,A3,n3,rfl,rfl,rfl,-,-,-⟩:=hv.forms;have hnn:lT x.keys+lT x.items≤N:=by have:=Jp x;omega
  have HV:=hiQ hv;have IH:=hiQ ih;clear hv ih hN;go_enter Tryz.func43,Tryz.ntmps43
  go_upto_region 1 with fail;refine aO (fun wd2 hb1 V => ?_);have hw3:=hb1;clear hb1;have dI:=V.out.e3;have Nr:=hiQ V.out;have hB0:=hw3;go_wp2_with fail;clear dI;go_loopw [3,4] (fun m i wr => ∃ (k:Nat) (a:Int),k≤x.keys.length∧i = .int .i64 k∧m = .int .i64 a∧Has wr w.heap.size 81 #[.int .i64 x.kind,.bool x.bool,.int .i64 x.num,.string ⟨x.str.toArray⟩,.int .i64 x.id,.slice A1 x.keys.length n1,.slice A2 x.items.length n2,.slice A3 x.rest.length n3]∧Below w.heap.size w wr) (fun _ i _ => x.keys.length - (intOf i).toNat)
  case atStart => exact ⟨0,_,by omega,rfl,rfl,Nr.out,hB0⟩
  case round =>
   clear V Nr hB0;obtain ⟨k,a,hk,rfl,rfl,V,hb⟩:=hrel;replace V:=hiQ V;by_cases hlt:k < x.keys.length
   ·
    obtain ⟨b,o,hA,hbb,hel⟩:=(HV.out.on hb).keys.elem (by omega);obtain ⟨yk,yi,yr,hcells,hva⟩:=hel k hlt;have hny:=tY x.keys x.keys[k] (List.getElem_mem hlt);generalize x.keys[k]=y at *;obtain ⟨B1,k1,B2,k2,B3,k3,rfl,rfl,rfl,-,-,-⟩:=hva.forms;obtain ⟨d0,d1,d2,d3,d4,d5,d6,d7⟩:=hcells;have HA:=hiQ hva;have hk1:(k:Int) < x.keys.length:=by omega
    clear hel hva;have aQ:=V.out.e5;go_wp2_with fail;clear aQ;exact zKs
   obtain rfl:k=x.keys.length:=by omega
   have aQ:=V.out.e5;have Nr:=hiQ V.out;have hB0:=hb;go_wp2_with fail;clear aQ;go_loopw [3,5] (fun m i wr => ∃ (k:Nat) (a:Int),k≤x.items.length∧i = .int .i64 k∧m = .int .i64 a∧Has wr w.heap.size 81 #[.int .i64 x.kind,.bool x.bool,.int .i64 x.num,.string ⟨x.str.toArray⟩,.int .i64 x.id,.slice A1 x.keys.length n1,.slice A2 x.items.length n2,.slice A3 x.rest.length n3]∧Below w.heap.size w wr) (fun _ i _ => x.items.length - (intOf i).toNat)
   case atStart => exact ⟨0,_,by omega,rfl,rfl,Nr.out,hB0⟩
   case round =>
    clear V Nr hB0;obtain ⟨k,a,hk,rfl,rfl,V,hb⟩:=hrel;replace V:=hiQ V;by_cases hlt:k < x.items.length
    ·
     obtain ⟨b,o,hA,hbb,hel⟩:=(HV.out.on hb).items.elem (by omega);obtain ⟨yk,yi,yr,hcells,hva⟩:=hel k hlt;have hny:=tY x.items x.items[k] (List.getElem_mem hlt);generalize x.items[k]=y at *;obtain ⟨B1,k1,B2,k2,B3,k3,rfl,rfl,rfl,-,-,-⟩:=hva.forms;obtain ⟨d0,d1,d2,d3,d4,d5,d6,d7⟩:=hcells;have HA:=hiQ hva;have hk1:(k:Int) < x.items.length:=by omega
     clear hel hva;have aP:=V.out.e6;go_wp2_with fail;clear aP;exact zKs
    obtain rfl:k=x.items.length:=by omega
    have aP:=V.out.e6;have Nr:=hiQ V.out;have hB0:=hb;go_wp2_with fail;clear aP;go_loopw [3,6] (fun m i wr => ∃ (k:Nat) (a:Int),k≤x.rest.length∧i = .int .i64 k∧m = .int .i64 a∧Has wr w.heap.size 81 #[.int .i64 x.kind,.bool x.bool,.int .i64 x.num,.string ⟨x.str.toArray⟩,.int .i64 x.id,.slice A1 x.keys.length n1,.slice A2 x.items.length n2,.slice A3 x.rest.length n3]∧Below w.heap.size w wr) (fun _ i _ => x.rest.length - (intOf i).toNat)
    case atStart => exact ⟨0,_,by omega,rfl,rfl,Nr.out,hB0⟩
    case round =>
     clear V Nr hB0;obtain ⟨k,a,hk,rfl,rfl,V,hb⟩:=hrel;replace V:=hiQ V;by_cases hlt:k < x.rest.length
     ·
      obtain ⟨b,o,hA,hbb,hcell⟩:=(HV.out.on hb).rest.at_ (by omega);obtain ⟨d0,d1⟩:=qy hcell k hlt;have hri:=(HRW.out x.rest[k] (List.getElem_mem hlt)).2;generalize x.rest[k]=r at *;have hk1:(k:Int) < x.rest.length:=by omega
      clear hcell;have dJ:=V.out.e7;go_wp2_with fail;clear hA;go_roundw
      case rel => exact ⟨k+1,_,by omega,by go_num,rfl,V.out,hb⟩
      case measure => simp [intOf];omega
     obtain rfl:k=x.rest.length:=by omega
     have dJ:=V.out.e7;go_wp2_with fail;go_ret;exact ⟨⟨_,rfl⟩,hb⟩
theorem zKv {p:Prop} (h:p:=by
 go_wp2_with fail;go_roundw
 case rel => exact ⟨j+1,_,by omega,by go_num,rfl,S.out,hb2⟩
 case measure => simp [intOf];omega):p:=h
theorem aIE (ts:List ay) (A:Option Addr) (c:Nat) (w:World) (ht:aU w w.heap.size (.slice A ts.length c) ts) :
  Calls Tryz.prog 21 #[.agg #[.slice A ts.length c]] w (aIn w):=by
 have HT:=hiQ ht;clear ht;by_cases h40:40 < ts.length
 ·
  have hd:(40:Int) < ts.length:=by omega
  have hd2:decide ((40:Int) < ts.length)=true:=decide_eq_true hd;go_enter Tryz.func21,Tryz.ntmps21
  go_upto_region 1 with fail;refine aO (fun wd2 hb1 S => ?_);have hw3:=hb1;clear hb1;have aH:=S.out.e0;go_wp2_with fail;go_ret;exact ⟨⟨_,rfl⟩,hw3⟩
 have hd:(ts.length:Int)≤40:=by omega
 have hd2:decide ((40:Int) < ts.length)=false:=decide_eq_false (by omega);clear h40;go_enter Tryz.func21,Tryz.ntmps21
 go_upto_region 1 with fail;refine aO (fun wd2 hb1 S => ?_);have hw3:=hb1;clear hb1;have aH:=S.out.e0;have Eh:=hiQ S.out;have hB0:=hw3;go_wp2_with fail;clear aH;go_loopw [3,4] (fun m i wr => ∃ (j:Nat) (a:Int),j≤ts.length∧i = .int .i64 j∧m = .int .i64 a∧Has wr w.heap.size 25 #[.slice A ts.length c]∧Below w.heap.size w wr) (fun _ i _ => ts.length - (intOf i).toNat)
 case atStart => exact ⟨0,_,by omega,rfl,rfl,Eh.out,hB0⟩
 case round =>
  clear S Eh hB0;obtain ⟨j,a,hj,rfl,rfl,S,hb⟩:=hrel;replace S:=hiQ S;by_cases hlt:j < ts.length
  ·
   obtain ⟨b,o,hA,hbb,hel⟩:=HT.out.elem (by omega);obtain ⟨vs,vm,hcells,hxa⟩:=hel j hlt;have hi1:(j:Int) < ts.length:=by omega
   generalize ts[j]=x at *;obtain ⟨C1,m1,C2,m2,rfl,rfl,-,-⟩:=hxa.forms;obtain ⟨c0,c1,c2,c3,c4,c5,c6,c7,c8,c9⟩:=hcells.below hb hbb;have hls:=hxa.lens;have hnl:=hxa.GI;have Wj:=hiQ hxa;clear hxa hel hcells;have aH:=S.out.e0;go_upto_region 8 with fail;clear aH;refine aO (fun fG hb4 X => ?_);have nI:=S.out.here;have mO:=hb.size;replace S:=b1 S hb4;replace hb:=dT hb hb4;clear hb4;generalize wr.heap.size=g6 at *;clear c0 c1 c2 c3 c4 c5 c6 c7 c8 c9 hA;obtain ⟨-,bJ,-,-,-,eX,bU,-,-,-⟩:=X.out.c10;go_wp2_with fail;obtain ⟨gX,zD⟩ : ∃ g,g=g6:=⟨_,rfl⟩
   subst zD;have HX0:=hiQ X.out;have Eh:=hiQ S.out;have hB0:=hb;clear bJ eX bU;go_loopw [3,6] (fun m i ws => ∃ (k:Nat) (a:Int),k≤x.ah.length∧i = .int .i64 k∧m = .int .i64 a∧Has ws w.heap.size 25 #[.slice A ts.length c]∧Has ws gX 71 #[.int .i64 x.kind,.string ⟨x.name.toArray⟩,.int .i64 x.low,.int .i64 x.high,.int .i64 x.max,.slice C1 x.syms.length m1,.slice C2 x.ah.length m2,.int .i64 x.key,.int .i64 x.elem,.bool x.opn]∧Below w.heap.size w ws) (fun _ i _ => x.ah.length - (intOf i).toNat)
   case atStart => exact ⟨0,_,by omega,rfl,rfl,Eh.out,HX0.out,hB0⟩
   case round =>
    clear X S HX0 Eh hB0;obtain ⟨k,a2,hk,rfl,rfl,S,X,hb2⟩:=hrel;replace S:=hiQ S;replace X:=hiQ X;by_cases hlk:k < x.ah.length∧k < 100
    ·
     obtain ⟨hlk,aMq⟩:=hlk;obtain ⟨b1,o1,rfl,hb1,hel⟩:=Wj.out.ah.elem (by omega);obtain ⟨dk,di,dr,hcells,hma⟩:=hel k hlk;have hk1:(k:Int) < x.ah.length:=by omega
     have hk2:(k:Int) < 100:=by omega
     have hk0:(0:Int)≤(k:Int):=by omega
     generalize x.ah[k]=m at *;obtain ⟨D1,d1,D2,d2,D3,d3,rfl,rfl,rfl,-,-,-⟩:=hma.dflt.forms;obtain ⟨y0,y1,y2,y3,y4,y5,y6,y7,y8,y9,GN,GR,GU⟩:=hcells;have hnl:=hma.GI;have Oo:=hiQ hma.dflt;clear hel hma y0 y2 y3 y4;have bU:=X.out.e6;go_upto_region 12 with fail;refine wp_region_held_drew (S:=(fun w' => w'.cell? ⟨gX,6,none⟩=some (.slice (some ⟨b1,o1,none⟩) x.ah.length m2)∧(∀ (b o:Nat),b < w.heap.size→w'.cell? ⟨b,o,none⟩=w.cell? ⟨b,o,none⟩))) (by kernel_rfl) ⟨bU,(fun b o hlt => hb2.cell (p:=⟨b,o,none⟩) hlt)⟩ (fun hHeld => ?_);clear bU;have zU:Below wr.heap.size wr (wr.drew):=(Below.refl _ _).drew;obtain ⟨S,X⟩:=b2 S X zU;replace hb2:=dT hb2 zU;clear zU;generalize wr.drew=kL at *;refine wpAnyH_take (i:=0) (v := ?_) rfl (by kernel_rfl) (by kernel_rfl) (by kernel_rfl) (fun _ _ _ h => h) (Or.inl ⟨by rfl,?_⟩) (by assumption) ?_
     case refine_2 => (intro w hSw;(try dsimp only at hSw);go_simp;(first | done | with_reducible rfl))
     try simp only [kM]
     refine wpAnyH_take (i:=1) (v := ?_) rfl (by kernel_rfl) (by kernel_rfl) (by kernel_rfl) (fun _ _ _ h => h) (Or.inl ⟨by rfl,?_⟩) (by assumption) ?_
     case refine_2 => (intro w hSw;(try dsimp only at hSw);go_simp;(first | done | with_reducible rfl))
     try simp only [kM]
     refine wpAnyH_take (i:=2) (v := ?_) rfl (by kernel_rfl) (by kernel_rfl) (by kernel_rfl) (fun _ _ _ h => h) (Or.inl ⟨by rfl,?_⟩) (by assumption) ?_
     case refine_2 => (intro w hSw;(try dsimp only at hSw);go_simp;(first | done | with_reducible rfl))
     try simp only [kM]
     refine wpAnyH_take (i:=3) (v := ?_) rfl (by kernel_rfl) (by kernel_rfl) (by kernel_rfl) (fun _ _ _ h => h) (Or.inl ⟨by rfl,?_⟩) (by assumption) ?_
     case refine_2 => (intro w hSw;(try dsimp only at hSw);go_simp;(first | done | with_reducible rfl))
     try simp only [kM]
     refine wpAnyH_take (i:=4) (v := ?_) rfl (by kernel_rfl) (by kernel_rfl) (by kernel_rfl) (fun _ _ _ h => h) (Or.inl ⟨by rfl,?_⟩) (by assumption) ?_
     case refine_2 => (intro w hSw;(try dsimp only at hSw);go_simp;(first | done | with_reducible rfl))
     try simp only [kM]
     refine wpAnyH_take (i:=5) (v := ?_) rfl (by kernel_rfl) (by kernel_rfl) (by kernel_rfl) (fun _ _ _ h => h) (Or.inl ⟨by rfl,?_⟩) (by assumption) ?_
     case refine_2 => (intro w hSw;(try dsimp only at hSw);go_simp;(first | done | with_reducible rfl))
     try simp only [kM]
     refine wpAnyH_take (i:=6) (v := ?_) rfl (by kernel_rfl) (by kernel_rfl) (by kernel_rfl) (fun _ _ _ h => h) (Or.inl ⟨by rfl,?_⟩) (by assumption) ?_
     case refine_2 => (intro w hSw;(try dsimp only at hSw);go_simp;(first | done | with_reducible rfl))
     try simp only [kM]
     refine wpAnyH_take (i:=9) (v := ?_) rfl (by kernel_rfl) (by kernel_rfl) (by kernel_rfl) (fun _ _ _ h => h) (Or.inl ⟨by rfl,?_⟩) (by assumption) ?_
     case refine_2 => (intro w hSw;(try dsimp only at hSw);go_simp;(first | done | with_reducible rfl))
     try simp only [kM]
     refine wpAnyH_take (i:=10) (v := ?_) rfl (by kernel_rfl) (by kernel_rfl) (by kernel_rfl) (fun _ _ _ h => h) (Or.inl ⟨by rfl,?_⟩) (by assumption) ?_
     case refine_2 => (intro w hSw;(try dsimp only at hSw);go_simp;(first | done | with_reducible rfl))
     try simp only [kM]
     refine wpAnyH_take (i:=11) (v := ?_) rfl (by kernel_rfl) (by kernel_rfl) (by kernel_rfl) (fun _ _ _ h => h) (Or.inl ⟨by rfl,?_⟩) (by assumption) ?_
     case refine_2 => (intro w hSw;(try dsimp only at hSw);go_simp;(first | done | with_reducible rfl))
     try simp only [kM]
     refine wpAnyH_take (i:=12) (v := ?_) rfl (by kernel_rfl) (by kernel_rfl) (by kernel_rfl) (fun _ _ _ h => h) (Or.inl ⟨by rfl,?_⟩) (by assumption) ?_
     case refine_2 => (intro w hSw;(try dsimp only at hSw);go_simp;(first | done | with_reducible rfl))
     try simp only [kM]
     refine wpAnyH_take (i:=13) (v := ?_) rfl (by kernel_rfl) (by kernel_rfl) (by kernel_rfl) (fun _ _ _ h => h) (Or.inl ⟨by rfl,?_⟩) (by assumption) ?_
     case refine_2 => (intro w hSw;(try dsimp only at hSw);go_simp;(first | done | with_reducible rfl))
     try simp only [kM]
     refine wpAnyH_take (i:=14) (v := ?_) rfl (by kernel_rfl) (by kernel_rfl) (by kernel_rfl) (fun _ _ _ h => h) (Or.inl ⟨by rfl,?_⟩) (by assumption) ?_
     case refine_2 => (intro w hSw;(try dsimp only at hSw);go_simp;(first | done | with_reducible rfl))
     try simp only [kM]
     refine wpAnyH_take (i:=15) (v := ?_) rfl (by kernel_rfl) (by kernel_rfl) (by kernel_rfl) (fun _ _ _ h => h) (Or.inl ⟨by rfl,?_⟩) (by assumption) ?_
     case refine_2 => (intro w hSw;(try dsimp only at hSw);go_simp;(first | done | with_reducible rfl))
     try simp only [kM]
     refine wpAnyH_ready (rs:=[7]) (by kernel_rfl) (by simp) ?_;refine AllReadyH.cons rfl (fun K hK => ?_) (AllReadyH.nil);go_simp;((with_reducible refine (aID (nodes m.dflt) m.dflt _ _ _ _ (Nat.le_refl _) (Oo.out.on hb2)).mono ?_);rintro e dw ⟨⟨z,rfl⟩,fV⟩);obtain ⟨S,X⟩:=b2 S X fV;replace hb2:=dT hb2 fV;clear fV;(try clear hHeld);refine hK.out _ _ (⟨X.out.cell 6,(fun b o hlt => hb2.cell (p:=⟨b,o,none⟩) hlt)⟩) (fun hHeld => ?_);clear hK K;refine wpAnyH_take (i:=8) (v := ?_) rfl (by kernel_rfl) (by kernel_rfl) (by kernel_rfl) (fun _ _ _ h => h) (Or.inl ⟨by rfl,?_⟩) (by assumption) ?_
     case refine_2 => (intro w hSw;(try dsimp only at hSw);go_simp;(first | done | with_reducible rfl))
     try simp only
     refine wpAnyH_take (i:=16) (v := ?_) rfl (by kernel_rfl) (by kernel_rfl) (by kernel_rfl) (fun _ _ _ h => h) (Or.inl ⟨by rfl,?_⟩) (by assumption) ?_
     case refine_2 => (intro w hSw;(try dsimp only at hSw);go_simp;(first | done | with_reducible rfl))
     try simp only [kM]
     refine wpAnyH_take (i:=17) (v := ?_) rfl (by kernel_rfl) (by kernel_rfl) (by kernel_rfl) (fun _ _ _ h => h) (Or.inl ⟨by rfl,?_⟩) (by assumption) ?_
     case refine_2 => (intro w hSw;(try dsimp only at hSw);go_simp;(first | done | with_reducible rfl))
     try simp only [kM]
     refine wpAnyH_done (by kernel_rfl) ?_ _;(try clear hHeld);clear y1 y5 y6 y7 y8 y9 GN GR GU;go_wp2_with fail;go_roundw
     case rel => exact ⟨k+1,_,by omega,by go_num,rfl,S.out,X.out,hb2⟩
     case measure => simp [intOf];omega
    have bU:=X.out.e6;by_cases hk3:k < x.ah.length
    ·
     have hk1:(k:Int) < x.ah.length:=by omega
     have hk2:¬ (k:Int) < 100:=by omega
     exact zKv
    have hk1:¬ (k:Int) < x.ah.length:=by omega
    exact zKv
  obtain rfl:j=ts.length:=by omega
  have aH:=S.out.e0;go_wp2_with fail;go_ret;exact ⟨⟨_,rfl⟩,hb⟩
end Go.Proofs.YtlamhkffnlgofaaGreatDoor
