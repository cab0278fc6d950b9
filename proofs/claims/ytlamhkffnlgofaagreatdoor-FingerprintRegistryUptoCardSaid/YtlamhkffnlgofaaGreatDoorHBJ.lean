/- Schemas that come in. What sheaveref07.size and Few return: some number, some bool. Lists of roots, as they lie in memory; the law's few. No condition. -/
import Derived.Test.YtlamhkffnlgofaaGreatDoorHAF
import Derived.Test.YtlamhkffnlgofaaGreatDoorHAJ
set_option maxHeartbeats 4000000
set_option maxRecDepth 100000
namespace Go.Proofs.YtlamhkffnlgofaaGreatDoor
open Go.ChangeShapes Go.WideShapes Go.ChangeAt Go.RowKit Go.Joins
section
variable {H:Type} {enc:TypeId × Value→H} {w:World} {base:Nat} {spare:Nat→Bool} {held:Bool}
theorem aIJ (N:Nat) (cs:List Value) (D:DataW H) (Q:List MemPlace) (hl:cs.length=2)
  (h:DataW.trod enc Tryz.prog w base spare held N 105 cs=some (D,Q)) (hs:Sz 105 D):∃ x:Raw,cs=Kw x∧yR x:=by
 obtain ⟨xs,n,rfl,hx,_,hxl,hg⟩:=DataW.trod_struct Tryz.underlying105 h;obtain ⟨c0,c1,rfl⟩ : ∃ c0 c1,cs = [c0,c1]:=by
  match cs,hl with
  | [c0,c1],_ => exact ⟨c0,c1,rfl⟩
 match xs,hxl with
 | [y0,y1],_ =>
  injection hx with hx1 hx2;have k0:Tryz.prog.cellsOf 3=1:=by kernel_rfl
  have h0:DataW.trod enc Tryz.prog w base spare held n 3 (([c0,c1].drop 0).take (Tryz.prog.cellsOf 3))=some y0:=hg 0 _ rfl;rw [k0] at h0;have k1:Tryz.prog.cellsOf 9=1:=by kernel_rfl
  have h1:DataW.trod enc Tryz.prog w base spare held n 9 (([c0,c1].drop 1).take (Tryz.prog.cellsOf 9))=some y1:=hg 1 _ rfl;rw [k1] at h1;obtain ⟨n0,e0,_,w0⟩:=DataW.trod_int Tryz.underlying3 h0;obtain ⟨s1,e1,e1',_⟩:=DataW.trod_string Tryz.underlying9 h1;subst hx1;have sz1:=Sz.field hs Tryz.underlying105 (i:=1) rfl rfl;simp only [List.drop,List.take,List.cons.injEq,and_true] at e0 e1;subst e0 e1;obtain ⟨l1,rfl,aII⟩:=azu s1;have hsl1:l1.length≤140737488351232:=by
   rw [e1'] at sz1;simpa using sz1.str
  exact ⟨(n0,l1),rfl,wf_i64 w0,hsl1⟩
end
end Go.Proofs.YtlamhkffnlgofaaGreatDoor
namespace Go.Proofs.YtlamhkffnlgofaaGreatDoor
open Go.ChangeShapes Go.WideShapes Go.ChangeAt Go.RowKit
def aJ9 (w:World) (e:Ending) (w':World):Prop:=(∃ n:Int,e = .returned (.int .i64 n))∧Below w.heap.size w w'
def aIn (w:World) (e:Ending) (w':World):Prop:=(∃ b:Bool,e = .returned (.bool b))∧Below w.heap.size w w'
theorem zEc {p:Prop} (h:p:=by
 ((with_reducible refine (IH.out y _ _ _ _ (by omega) HA.out).mono ?_);rintro e wd4 ⟨⟨z,rfl⟩,hb5⟩);replace V:=b1 V hb5;replace hb:=dT hb hb5;clear hb5 d0 d1 d2 d3 d4 d5 d6 d7 hA;go_wp2_with fail;go_roundw
 case rel => exact ⟨k+1,_,by omega,by go_num,rfl,V.out,hb⟩
 case measure => simp [intOf];omega):p:=h
theorem aID:∀ (N:Nat) (x:Val) (vk vi vr:Value) (w:World),nodes x≤N→ValAt w w.heap.size x vk vi vr→Calls Tryz.prog 43 #[aS x vk vi vr] w (aJ9 w):=by
 intro N
 induction N with
 | zero => intro x vk vi vr w h;have:=zJ x;omega
 | succ N ih =>
  intro x vk vi vr w hN hv;have hle:=hv.lens;have hsl:=hv.AL;have HRW:=hiQ hv.Ie;obtain ⟨A1,n1,A2,n2,A3,n3,rfl,rfl,rfl,-,-,-⟩:=hv.forms;have hnn:lT x.keys+lT x.items≤N:=by have:=Jp x;omega
  have HV:=hiQ hv;have IH:=hiQ ih;clear hv ih hN;go_enter Tryz.func43,Tryz.ntmps43
  go_upto_region 1 with fail;refine aO (fun wd2 hb1 V => ?_);have hw3:=hb1;clear hb1;have dI:=V.out.e3;have Nr:=hiQ V.out;have hB0:=hw3;go_wp2_with fail;clear dI;go_loopw [3,4] (fun m i wr => ∃ (k:Nat) (a:Int),k≤x.keys.length∧i = .int .i64 k∧m = .int .i64 a∧Has wr w.heap.size 81 #[.int .i64 x.kind,.bool x.bool,.int .i64 x.num,.string ⟨x.str.toArray⟩,.int .i64 x.id,.slice A1 x.keys.length n1,.slice A2 x.items.length n2,.slice A3 x.rest.length n3]∧Below w.heap.size w wr) (fun _ i _ => x.keys.length - (intOf i).toNat)
  case atStart => exact ⟨0,_,by omega,rfl,rfl,Nr.out,hB0⟩
  case round =>
   clear V Nr hB0;obtain ⟨k,a,hk,rfl,rfl,V,hb⟩:=hrel;replace V:=hiQ V;by_cases hlt:k < x.keys.length
   ·
    obtain ⟨b,o,hA,hbb,hel⟩:=(HV.out.on hb).keys.elem (by omega);obtain ⟨yk,yi,yr,hcells,hva⟩:=hel k hlt;have hny:=tY x.keys x.keys[k] (List.getElem_mem hlt);generalize x.keys[k]=y at *;obtain ⟨B1,k1,B2,k2,B3,k3,rfl,rfl,rfl,-,-,-⟩:=hva.forms;obtain ⟨d0,d1,d2,d3,d4,d5,d6,d7⟩:=hcells;have HA:=hiQ hva;have hk1:(k:Int) < x.keys.length:=by omega
    clear hel hva;have aQ:=V.out.e5;go_wp2_with fail;clear aQ;exact zEc
   obtain rfl:k=x.keys.length:=by omega
   have aQ:=V.out.e5;have Nr:=hiQ V.out;have hB0:=hb;go_wp2_with fail;clear aQ;go_loopw [3,5] (fun m i wr => ∃ (k:Nat) (a:Int),k≤x.items.length∧i = .int .i64 k∧m = .int .i64 a∧Has wr w.heap.size 81 #[.int .i64 x.kind,.bool x.bool,.int .i64 x.num,.string ⟨x.str.toArray⟩,.int .i64 x.id,.slice A1 x.keys.length n1,.slice A2 x.items.length n2,.slice A3 x.rest.length n3]∧Below w.heap.size w wr) (fun _ i _ => x.items.length - (intOf i).toNat)
   case atStart => exact ⟨0,_,by omega,rfl,rfl,Nr.out,hB0⟩
   case round =>
    clear V Nr hB0;obtain ⟨k,a,hk,rfl,rfl,V,hb⟩:=hrel;replace V:=hiQ V;by_cases hlt:k < x.items.length
    ·
     obtain ⟨b,o,hA,hbb,hel⟩:=(HV.out.on hb).items.elem (by omega);obtain ⟨yk,yi,yr,hcells,hva⟩:=hel k hlt;have hny:=tY x.items x.items[k] (List.getElem_mem hlt);generalize x.items[k]=y at *;obtain ⟨B1,k1,B2,k2,B3,k3,rfl,rfl,rfl,-,-,-⟩:=hva.forms;obtain ⟨d0,d1,d2,d3,d4,d5,d6,d7⟩:=hcells;have HA:=hiQ hva;have hk1:(k:Int) < x.items.length:=by omega
     clear hel hva;have aP:=V.out.e6;go_wp2_with fail;clear aP;exact zEc
    obtain rfl:k=x.items.length:=by omega
    have aP:=V.out.e6;have Nr:=hiQ V.out;have hB0:=hb;go_wp2_with fail;clear aP;go_loopw [3,6] (fun m i wr => ∃ (k:Nat) (a:Int),k≤x.rest.length∧i = .int .i64 k∧m = .int .i64 a∧Has wr w.heap.size 81 #[.int .i64 x.kind,.bool x.bool,.int .i64 x.num,.string ⟨x.str.toArray⟩,.int .i64 x.id,.slice A1 x.keys.length n1,.slice A2 x.items.length n2,.slice A3 x.rest.length n3]∧Below w.heap.size w wr) (fun _ i _ => x.rest.length - (intOf i).toNat)
    case atStart => exact ⟨0,_,by omega,rfl,rfl,Nr.out,hB0⟩
    case round =>
     clear V Nr hB0;obtain ⟨k,a,hk,rfl,rfl,V,hb⟩:=hrel;replace V:=hiQ V;by_cases hlt:k < x.rest.length
     ·
      obtain ⟨b,o,hA,hbb,hcell⟩:=(HV.out.on hb).rest.at_ (by omega);obtain ⟨d0,d1⟩:=qy hcell k hlt;have hri:=(HRW.out x.rest[k] (List.getElem_mem hlt)).2;generalize x.rest[k]=r at *;have hk1:(k:Int) < x.rest.length:=by omega
      clear hcell;have dJ:=V.out.e7;go_wp2_with fail;clear hA;go_roundw
      case rel => exact ⟨k+1,_,by omega,by go_num,rfl,V.out,hb⟩
      case measure => simp [intOf];omega
     obtain rfl:k=x.rest.length:=by omega
     have dJ:=V.out.e7;go_wp2_with fail;go_ret;exact ⟨⟨_,rfl⟩,hb⟩
theorem zGg {p:Prop} (h:p:=by
 go_wp2_with fail;go_roundw
 case rel => exact ⟨j+1,_,by omega,by go_num,rfl,S.out,hb2⟩
 case measure => simp [intOf];omega):p:=h
theorem aIE (ts:List ay) (A:Option Addr) (c:Nat) (w:World) (ht:aU w w.heap.size (.slice A ts.length c) ts) :
  Calls Tryz.prog 21 #[.agg #[.slice A ts.length c]] w (aIn w):=by
 have HT:=hiQ ht;clear ht;by_cases h40:40 < ts.length
 ·
  have hd:(40:Int) < ts.length:=by omega
  have hd2:decide ((40:Int) < ts.length)=true:=decide_eq_true hd;go_enter Tryz.func21,Tryz.ntmps21
  go_upto_region 1 with fail;refine aO (fun wd2 hb1 S => ?_);have hw3:=hb1;clear hb1;have aH:=S.out.e0;go_wp2_with fail;go_ret;exact ⟨⟨_,rfl⟩,hw3⟩
 have hd:(ts.length:Int)≤40:=by omega
 have hd2:decide ((40:Int) < ts.length)=false:=decide_eq_false (by omega);clear h40;go_enter Tryz.func21,Tryz.ntmps21
 go_upto_region 1 with fail;refine aO (fun wd2 hb1 S => ?_);have hw3:=hb1;clear hb1;have aH:=S.out.e0;have Eh:=hiQ S.out;have hB0:=hw3;go_wp2_with fail;clear aH;go_loopw [3,4] (fun m i wr => ∃ (j:Nat) (a:Int),j≤ts.length∧i = .int .i64 j∧m = .int .i64 a∧Has wr w.heap.size 25 #[.slice A ts.length c]∧Below w.heap.size w wr) (fun _ i _ => ts.length - (intOf i).toNat)
 case atStart => exact ⟨0,_,by omega,rfl,rfl,Eh.out,hB0⟩
 case round =>
  clear S Eh hB0;obtain ⟨j,a,hj,rfl,rfl,S,hb⟩:=hrel;replace S:=hiQ S;by_cases hlt:j < ts.length
  ·
   obtain ⟨b,o,hA,hbb,hel⟩:=HT.out.elem (by omega);obtain ⟨vs,vm,hcells,hxa⟩:=hel j hlt;have hi1:(j:Int) < ts.length:=by omega
   generalize ts[j]=x at *;obtain ⟨C1,m1,C2,m2,rfl,rfl,-,-⟩:=hxa.forms;obtain ⟨c0,c1,c2,c3,c4,c5,c6,c7,c8,c9⟩:=hcells.below hb hbb;have hls:=hxa.lens;have hnl:=hxa.GI;have Wj:=hiQ hxa;clear hxa hel hcells;have aH:=S.out.e0;go_upto_region 8 with fail;clear aH;refine aO (fun fG hb4 X => ?_);have nI:=S.out.here;have mO:=hb.size;replace S:=b1 S hb4;replace hb:=dT hb hb4;clear hb4;generalize wr.heap.size=g6 at *;clear c0 c1 c2 c3 c4 c5 c6 c7 c8 c9 hA;obtain ⟨-,bJ,-,-,-,eX,bU,-,-,-⟩:=X.out.c10;go_wp2_with fail;obtain ⟨gX,zD⟩ : ∃ g,g=g6:=⟨_,rfl⟩
   subst zD;have HX0:=hiQ X.out;have Eh:=hiQ S.out;have hB0:=hb;clear bJ eX bU;go_loopw [3,6] (fun m i ws => ∃ (k:Nat) (a:Int),k≤x.ah.length∧i = .int .i64 k∧m = .int .i64 a∧Has ws w.heap.size 25 #[.slice A ts.length c]∧Has ws gX 71 #[.int .i64 x.kind,.string ⟨x.name.toArray⟩,.int .i64 x.low,.int .i64 x.high,.int .i64 x.max,.slice C1 x.syms.length m1,.slice C2 x.ah.length m2,.int .i64 x.key,.int .i64 x.elem,.bool x.opn]∧Below w.heap.size w ws) (fun _ i _ => x.ah.length - (intOf i).toNat)
   case atStart => exact ⟨0,_,by omega,rfl,rfl,Eh.out,HX0.out,hB0⟩
   case round =>
    clear X S HX0 Eh hB0;obtain ⟨k,a2,hk,rfl,rfl,S,X,hb2⟩:=hrel;replace S:=hiQ S;replace X:=hiQ X;by_cases hlk:k < x.ah.length∧k < 100
    ·
     obtain ⟨hlk,aMq⟩:=hlk;obtain ⟨b1,o1,rfl,hb1,hel⟩:=Wj.out.ah.elem (by omega);obtain ⟨dk,di,dr,hcells,hma⟩:=hel k hlk;have hk1:(k:Int) < x.ah.length:=by omega
     have hk2:(k:Int) < 100:=by omega
     have hk0:(0:Int)≤(k:Int):=by omega
     generalize x.ah[k]=m at *;obtain ⟨D1,d1,D2,d2,D3,d3,rfl,rfl,rfl,-,-,-⟩:=hma.dflt.forms;obtain ⟨y0,y1,y2,y3,y4,y5,y6,y7,y8,y9,GN,GR,GU⟩:=hcells;have hnl:=hma.GI;have Oo:=hiQ hma.dflt;clear hel hma y0 y2 y3 y4;have bU:=X.out.e6;go_upto_region 12 with fail;refine wp_region_held_drew (S:=(fun w' => w'.cell? ⟨gX,6,none⟩=some (.slice (some ⟨b1,o1,none⟩) x.ah.length m2)∧(∀ (b o:Nat),b < w.heap.size→w'.cell? ⟨b,o,none⟩=w.cell? ⟨b,o,none⟩))) (by kernel_rfl) ⟨bU,(fun b o hlt => hb2.cell (p:=⟨b,o,none⟩) hlt)⟩ (fun hHeld => ?_);clear bU;have zU:Below wr.heap.size wr (wr.drew):=(Below.refl _ _).drew;obtain ⟨S,X⟩:=b2 S X zU;replace hb2:=dT hb2 zU;clear zU;generalize wr.drew=kL at *;refine wpAnyH_take (i:=0) (v := ?_) rfl (by kernel_rfl) (by kernel_rfl) (by kernel_rfl) (fun _ _ _ h => h) (Or.inl ⟨by rfl,?_⟩) (by assumption) ?_
     case refine_2 => (intro w hSw;(try dsimp only at hSw);go_simp;(first | done | with_reducible rfl))
     try simp only [kM]
     refine wpAnyH_take (i:=1) (v := ?_) rfl (by kernel_rfl) (by kernel_rfl) (by kernel_rfl) (fun _ _ _ h => h) (Or.inl ⟨by rfl,?_⟩) (by assumption) ?_
     case refine_2 => (intro w hSw;(try dsimp only at hSw);go_simp;(first | done | with_reducible rfl))
     try simp only [kM]
     refine wpAnyH_take (i:=2) (v := ?_) rfl (by kernel_rfl) (by kernel_rfl) (by kernel_rfl) (fun _ _ _ h => h) (Or.inl ⟨by rfl,?_⟩) (by assumption) ?_
     case refine_2 => (intro w hSw;(try dsimp only at hSw);go_simp;(first | done | with_reducible rfl))
     try simp only [kM]
     refine wpAnyH_take (i:=3) (v := ?_) rfl (by kernel_rfl) (by kernel_rfl) (by kernel_rfl) (fun _ _ _ h => h) (Or.inl ⟨by rfl,?_⟩) (by assumption) ?_
     case refine_2 => (intro w hSw;(try dsimp only at hSw);go_simp;(first | done | with_reducible rfl))
     try simp only [kM]
     refine wpAnyH_take (i:=4) (v := ?_) rfl (by kernel_rfl) (by kernel_rfl) (by kernel_rfl) (fun _ _ _ h => h) (Or.inl ⟨by rfl,?_⟩) (by assumption) ?_
     case refine_2 => (intro w hSw;(try dsimp only at hSw);go_simp;(first | done | with_reducible rfl))
     try simp only [kM]
     refine wpAnyH_take (i:=5) (v := ?_) rfl (by kernel_rfl) (by kernel_rfl) (by kernel_rfl) (fun _ _ _ h => h) (Or.inl ⟨by rfl,?_⟩) (by assumption) ?_
     case refine_2 => (intro w hSw;(try dsimp only at hSw);go_simp;(first | done | with_reducible rfl))
     try simp only [kM]
     refine wpAnyH_take (i:=6) (v := ?_) rfl (by kernel_rfl) (by kernel_rfl) (by kernel_rfl) (fun _ _ _ h => h) (Or.inl ⟨by rfl,?_⟩) (by assumption) ?_
     case refine_2 => (intro w hSw;(try dsimp only at hSw);go_simp;(first | done | with_reducible rfl))
     try simp only [kM]
     refine wpAnyH_take (i:=9) (v := ?_) rfl (by kernel_rfl) (by kernel_rfl) (by kernel_rfl) (fun _ _ _ h => h) (Or.inl ⟨by rfl,?_⟩) (by assumption) ?_
     case refine_2 => (intro w hSw;(try dsimp only at hSw);go_simp;(first | done | with_reducible rfl))
     try simp only [kM]
     refine wpAnyH_take (i:=10) (v := ?_) rfl (by kernel_rfl) (by kernel_rfl) (by kernel_rfl) (fun _ _ _ h => h) (Or.inl ⟨by rfl,?_⟩) (by assumption) ?_
     case refine_2 => (intro w hSw;(try dsimp only at hSw);go_simp;(first | done | with_reducible rfl))
     try simp only [kM]
     refine wpAnyH_take (i:=11) (v := ?_) rfl (by kernel_rfl) (by kernel_rfl) (by kernel_rfl) (fun _ _ _ h => h) (Or.inl ⟨by rfl,?_⟩) (by assumption) ?_
     case refine_2 => (intro w hSw;(try dsimp only at hSw);go_simp;(first | done | with_reducible rfl))
     try simp only [kM]
     refine wpAnyH_take (i:=12) (v := ?_) rfl (by kernel_rfl) (by kernel_rfl) (by kernel_rfl) (fun _ _ _ h => h) (Or.inl ⟨by rfl,?_⟩) (by assumption) ?_
     case refine_2 => (intro w hSw;(try dsimp only at hSw);go_simp;(first | done | with_reducible rfl))
     try simp only [kM]
     refine wpAnyH_take (i:=13) (v := ?_) rfl (by kernel_rfl) (by kernel_rfl) (by kernel_rfl) (fun _ _ _ h => h) (Or.inl ⟨by rfl,?_⟩) (by assumption) ?_
     case refine_2 => (intro w hSw;(try dsimp only at hSw);go_simp;(first | done | with_reducible rfl))
     try simp only [kM]
     refine wpAnyH_take (i:=14) (v := ?_) rfl (by kernel_rfl) (by kernel_rfl) (by kernel_rfl) (fun _ _ _ h => h) (Or.inl ⟨by rfl,?_⟩) (by assumption) ?_
     case refine_2 => (intro w hSw;(try dsimp only at hSw);go_simp;(first | done | with_reducible rfl))
     try simp only [kM]
     refine wpAnyH_take (i:=15) (v := ?_) rfl (by kernel_rfl) (by kernel_rfl) (by kernel_rfl) (fun _ _ _ h => h) (Or.inl ⟨by rfl,?_⟩) (by assumption) ?_
     case refine_2 => (intro w hSw;(try dsimp only at hSw);go_simp;(first | done | with_reducible rfl))
     try simp only [kM]
     refine wpAnyH_ready (rs:=[7]) (by kernel_rfl) (by simp) ?_;refine AllReadyH.cons rfl (fun K hK => ?_) (AllReadyH.nil);go_simp;((with_reducible refine (aID (nodes m.dflt) m.dflt _ _ _ _ (Nat.le_refl _) (Oo.out.on hb2)).mono ?_);rintro e dw ⟨⟨z,rfl⟩,fV⟩);obtain ⟨S,X⟩:=b2 S X fV;replace hb2:=dT hb2 fV;clear fV;(try clear hHeld);refine hK.out _ _ (⟨X.out.cell 6,(fun b o hlt => hb2.cell (p:=⟨b,o,none⟩) hlt)⟩) (fun hHeld => ?_);clear hK K;refine wpAnyH_take (i:=8) (v := ?_) rfl (by kernel_rfl) (by kernel_rfl) (by kernel_rfl) (fun _ _ _ h => h) (Or.inl ⟨by rfl,?_⟩) (by assumption) ?_
     case refine_2 => (intro w hSw;(try dsimp only at hSw);go_simp;(first | done | with_reducible rfl))
     try simp only
     refine wpAnyH_take (i:=16) (v := ?_) rfl (by kernel_rfl) (by kernel_rfl) (by kernel_rfl) (fun _ _ _ h => h) (Or.inl ⟨by rfl,?_⟩) (by assumption) ?_
     case refine_2 => (intro w hSw;(try dsimp only at hSw);go_simp;(first | done | with_reducible rfl))
     try simp only [kM]
     refine wpAnyH_take (i:=17) (v := ?_) rfl (by kernel_rfl) (by kernel_rfl) (by kernel_rfl) (fun _ _ _ h => h) (Or.inl ⟨by rfl,?_⟩) (by assumption) ?_
     case refine_2 => (intro w hSw;(try dsimp only at hSw);go_simp;(first | done | with_reducible rfl))
     try simp only [kM]
     refine wpAnyH_done (by kernel_rfl) ?_ _;(try clear hHeld);clear y1 y5 y6 y7 y8 y9 GN GR GU;go_wp2_with fail;go_roundw
     case rel => exact ⟨k+1,_,by omega,by go_num,rfl,S.out,X.out,hb2⟩
     case measure => simp [intOf];omega
    have bU:=X.out.e6;by_cases hk3:k < x.ah.length
    ·
     have hk1:(k:Int) < x.ah.length:=by omega
     have hk2:¬ (k:Int) < 100:=by omega
     exact zGg
    have hk1:¬ (k:Int) < x.ah.length:=by omega
    exact zGg
  obtain rfl:j=ts.length:=by omega
  have aH:=S.out.e0;go_wp2_with fail;go_ret;exact ⟨⟨_,rfl⟩,hb⟩
abbrev OB:=List ay × Int
def AV (w:World) (B:Nat) (cs:List Value) (rs:List OB):Prop:=cs.length=rs.length*2∧∀ k,(h:k < rs.length)→∃ A c,cs[k*2]?=some (.slice A rs[k].1.length c)∧cs[k*2+1]?=some (.int .i64 rs[k].2)∧aU w B (.slice A rs[k].1.length c) rs[k].1
section
variable {w w':World} {B B':Nat} {cs:List Value} {rs:List OB}
theorem AV.keep (h:AV w B cs rs) (hk:∀ p:Addr,p.block < B→w'.cell? p=w.cell? p) (hB:B≤B'):AV w' B' cs rs :=
 ⟨h.1,fun k hk2 => by
  obtain ⟨A,c,h1,h2,h3⟩:=h.2 k hk2;exact ⟨A,c,h1,h2,h3.keep hk hB⟩⟩
theorem AV.on (h:AV w w.heap.size cs rs) (hb:Below w.heap.size w w'):AV w' w'.heap.size cs rs:=h.keep (fun _ hp => hb.cell hp) hb.size
theorem AV.nil (w:World) (B:Nat):AV w B [] []:=⟨rfl,fun k h => by simp at h⟩
theorem AV.snoc {ts:List ay} {t:Int} {A:Option Addr} {c:Nat} (h:AV w B cs rs) (ht:aU w B (.slice A ts.length c) ts):AV w B (cs ++ [.slice A ts.length c,.int .i64 t]) (rs ++ [(ts,t)]):=by
 have l:=h.1;refine ⟨by simp only [List.length_append,List.length_cons,List.length_nil];omega,fun k hk => ?_⟩;rw [List.length_append,List.length_cons,List.length_nil] at hk;by_cases h1:k < rs.length
 ·
  obtain ⟨A',c',e1,e2,e3⟩:=h.2 k h1;have e:(rs ++ [(ts,t)])[k]=rs[k]:=List.getElem_append_left h1;rw [e];exact ⟨A',c',by rw [List.getElem?_append_left (by omega)];exact e1,by rw [List.getElem?_append_left (by omega)];exact e2,e3⟩
 obtain rfl:k=rs.length:=by omega
 have e:(rs ++ [(ts,t)])[rs.length]=(ts,t):=by simp
 rw [e];exact ⟨A,c,by rw [List.getElem?_append_right (by omega),show rs.length*2 - cs.length=0 by omega];rfl,by rw [List.getElem?_append_right (by omega),show rs.length*2+1 - cs.length=1 by omega];rfl,ht⟩
theorem AV.one (h:AV w B cs rs):∀ u ∈ cs,u.oneCell'=true:=by
 intro u hu;obtain ⟨j,hj,rfl⟩:=List.getElem_of_mem hu;have hl:=h.1;obtain ⟨A,c,e1,e2,_⟩:=h.2 (j / 2) (by omega);rcases Nat.mod_two_eq_zero_or_one j with hm | hm
 ·
  have e:j / 2*2=j:=by omega
  rw [e,List.getElem?_eq_getElem hj] at e1;injection e1 with e1;rw [e1];rfl
 have e:j / 2*2+1=j:=by omega
 rw [e,List.getElem?_eq_getElem hj] at e2;injection e2 with e2;rw [e2];rfl
theorem Y7 {A:Option Addr} {c:Nat} (hr:Rd w B 2 (.slice A rs.length c) rs.length cs) (h:AV w B cs rs) (k:Nat) (hk:k < rs.length) :
  ∃ b o A' c',A=some ⟨b,o,none⟩∧b < B∧w.cell? ⟨b,o+k*2,none⟩=some (.slice A' rs[k].1.length c')∧w.cell? ⟨b,o+k*2+1,none⟩=some (.int .i64 rs[k].2)∧aU w B (.slice A' rs[k].1.length c') rs[k].1:=by
 obtain ⟨b,o,hA,hb,hc⟩:=hr.at_ (by omega);obtain ⟨A',c',e1,e2,e3⟩:=h.2 k hk;exact ⟨b,o,A',c',hA,hb,hc _ _ e1,hc _ _ e2,e3⟩
end
theorem aEA {w:World} {g:Nat} {ts:List ay} {A:Option Addr} {c:Nat} {t:Int} (h:Has w g 27 #[.slice A ts.length c,.int .i64 t]) (ht:aU w w.heap.size (.slice A ts.length c) ts) :
  Rd w w.heap.size 2 (.slice (some ⟨g,0,none⟩) 1 1) 1 [.slice A ts.length c,.int .i64 t]∧AV w w.heap.size [.slice A ts.length c,.int .i64 t] [(ts,t)]:=by
 refine ⟨⟨rfl,_,1,rfl,Nat.le_refl _,.inr ⟨g,0,rfl,h.here,fun j u hu => ?_⟩⟩,(AV.nil w w.heap.size).snoc ht⟩;rw [Nat.zero_add]
 match j,hu with
 | 0,hu => injection hu with hu;subst hu;exact h.cell 0
 | 1,hu => injection hu with hu;subst hu;exact h.cell 1
 | j+2,hu => simp at hu
theorem aIj (rs:List OB) (cs:List Value) (v:Value) (w:World) (hn:rs.length≤140737488351232) (hr:Rd w w.heap.size 2 v rs.length cs) (ht:AV w w.heap.size cs rs) :
  Calls Tryz.prog 11 #[v] w fun e w' => (∃ b:Bool,e = .returned (.bool b)∧(b=true→rs.length≤6∧∀ x ∈ rs,x.1.length≤8))∧Below w.heap.size w w':=by
 obtain ⟨A,c,rfl,hcap⟩:=hr.form;have HR:=hiQ hr;have HT:=hiQ ht;have HFW:=hiQ (fun (ts:List ay) (A:Option Addr) (c:Nat) W h => aIE ts A c W h);unfold aIn at HFW;clear hr ht;by_cases h6:6 < rs.length
 ·
  have hd:(6:Int) < rs.length:=by omega
  have hd2:decide ((6:Int) < rs.length)=true:=decide_eq_true hd;clear h6;go_enter Tryz.func11,Tryz.ntmps11
  go_wp2_with fail;go_ret;exact ⟨⟨_,rfl,fun h => by cases h⟩,Below.refl _ _⟩
 have hd:(rs.length:Int)≤6:=by omega
 have hd2:decide ((6:Int) < rs.length)=false:=decide_eq_false (by omega);have h6':rs.length≤6:=by omega
 clear h6;go_enter Tryz.func11,Tryz.ntmps11
 go_upto_region 4 with fail;have aD4:Below w.heap.size w w:=Below.refl _ _;go_loopw [10] (fun s10 wr => ∃ k:Nat,k≤rs.length∧s10 = .int .i64 k∧(∀ x ∈ rs.take k,x.1.length≤8)∧Below w.heap.size w wr) (fun s10 _ => rs.length - (intOf s10).toNat)
 case atStart => exact ⟨0,Nat.zero_le _,rfl,by simp,aD4⟩
 case round =>
  clear aD4;obtain ⟨k,hk,rfl,hall,hb⟩:=hrel;have yP:=hiQ hall;clear hall;by_cases hlt:k < rs.length
  ·
   obtain ⟨b,o,A1,c1,hA,hbb,x0,x1,hx⟩:=Y7 HR.out HT.out k hlt;have aGc:rs[k].1.length≤8→∀ x ∈ rs.take (k+1),x.1.length≤8:=fun h8 x hx => by
    rw [List.take_succ_eq_append_getElem hlt] at hx;rcases List.mem_append.1 hx with hx | hx
    · exact yP.out x hx
    rw [List.mem_singleton.1 hx];exact h8
   replace x0:=(hb.cell (p:=⟨b,_,none⟩) hbb).trans x0;replace x1:=(hb.cell (p:=⟨b,_,none⟩) hbb).trans x1;generalize rs[k]=x at *;obtain ⟨ts,t⟩:=x;simp only at x0 x1 hx aGc;have HX:=hiQ hx;have aLR:=hiQ aGc;have hi1:(k:Int) < rs.length:=by omega
   clear hx aGc;subst hA;go_upto_region 6 with fail;refine aO (fun wd2 hb1 R => ?_);have hl4:=hb.size;replace hb:=dT hb hb1;clear hb1;generalize wr.heap.size=g3 at *;clear x0 x1;have iV:=R.out.e0;go_wp2_with fail;clear iV;((with_reducible refine (HFW.out ts A1 c1 _ (HX.out.on hb)).mono ?_);rintro e fG ⟨⟨bq,rfl⟩,hb6⟩);replace R:=b1 R hb6;replace hb:=dT hb hb6;clear hb6;cases bq with
   | false =>
    go_wp2_with fail;go_ret;exact ⟨⟨_,rfl,fun h => by cases h⟩,hb⟩
   | true =>
    by_cases h8:8 < ts.length
    ·
     have hd8:(8:Int) < ts.length:=by omega
     have hd9:decide ((8:Int) < ts.length)=true:=decide_eq_true hd8;have iV:=R.out.e0;go_wp2_with fail;go_ret;exact ⟨⟨_,rfl,fun h => by cases h⟩,hb⟩
    have hd8:(ts.length:Int)≤8:=by omega
    have hd9:decide ((8:Int) < ts.length)=false:=decide_eq_false (by omega);have h8':ts.length≤8:=by omega
    have iV:=R.out.e0;go_wp2_with fail;go_roundw
    case rel => exact ⟨k+1,by omega,by go_num,aLR.out h8',hb⟩
    case measure => simp [intOf];omega
  obtain rfl:k=rs.length:=by omega
  have hall:=yP.out;rw [List.take_of_length_le (Nat.le_refl _)] at hall;have aLS:=hiQ hall;clear hall;go_wp2_with fail;go_ret;exact ⟨⟨true,rfl,fun _ => ⟨h6',aLS.out⟩⟩,hb⟩
end Go.Proofs.YtlamhkffnlgofaaGreatDoor
