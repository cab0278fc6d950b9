/- What sheaveref18.Error, Equivalent and Wire compute. What sheaveref18.Classes computes of a valid schema. What sheaveref18.index computes: a number's first place. No condition. -/
import Derived.Test.YtlamhkffnlgofaaGreatDoorHAP
import Derived.Test.YtlamhkffnlgofaaGreatDoorGrt
set_option maxHeartbeats 1600000
set_option maxRecDepth 100000
namespace Go.Proofs.YtlamhkffnlgofaaGreatDoor
open Go.ChangeShapes Go.WideShapes Go.ChangeAt Go.RowKit
theorem atY (ts:List ay) (A:Option Addr) (c:Nat) (t:Int) (w:World) (hs:Sizes ts) (ht:aU w w.heap.size (.slice A ts.length c) ts) :
  Calls Tryz.prog 65 #[.agg #[.slice A ts.length c,.int .i64 t]] w (RTq w (.int .i64 (gV ts t))) :=
 awK ts A c t w ht (fun W h => aaw ts A c W hs h)
theorem zAr {p:Prop} (h:p:=by exact ⟨X.out.cell 0,⟨X.out.cell 1,⟨Y.out.cell 0,Y.out.cell 1⟩⟩⟩):p:=h
theorem ax0 (ts us:List ay) (A A':Option Addr) (c c':Nat) (t t':Int) (w:World) (hs:Sizes ts) (hs':Sizes us) (ht:aU w w.heap.size (.slice A ts.length c) ts) (hu:aU w w.heap.size (.slice A' us.length c') us) :
  Calls Tryz.prog 41 #[.agg #[.slice A ts.length c,.int .i64 t],.agg #[.slice A' us.length c',.int .i64 t'],.bool false] w (RTq w (.bool (aot ts t us t'))):=by
 have HT:=hiQ ht;have HU:=hiQ hu;have H1:=hiQ (fun W h => atY ts A c t W hs h);have H2:=hiQ (fun W h => atY us A' c' t' W hs' h);clear ht hu hs hs';by_cases h1:gV ts t=0
 ·
  obtain ⟨hv1,ht0,htl⟩:=aro h1;rw [h1] at H1;by_cases h2:gV us t'=0
  ·
   obtain ⟨hv2,hu0,Wn⟩:=aro h2;rw [h2] at H2;obtain ⟨i,rfl⟩ : ∃ i:Nat,t=(i:Int):=⟨t.toNat,by omega⟩
   obtain ⟨k,rfl⟩ : ∃ k:Nat,t'=(k:Int):=⟨t'.toNat,by omega⟩
   have hw:Hid (aot ts i us k=aoY ts us i k):=by show _=_;unfold aot;rw [if_pos ⟨h1,h2⟩];rfl
   have hil:i < ts.length:=by omega
   have hkl:k < us.length:=by omega
   have HR:=hiQ (fun W h1 h2 => avN ts us A A' c c' W (by have:=(akN hv1).len;omega) (by have:=(akN hv2).len;omega) (akN hv1).ah (akN hv2).ah (akN hv1).inu (akN hv2).inu h1 h2);have hd0:decide ((i:Int) < 0)=false:=by simp
   have hd1:decide (ts.length≤i)=false:=by simpa using hil
   have hd2:decide ((k:Int) < 0)=false:=by simp
   have hd3:decide (us.length≤k)=false:=by simpa using hkl
   clear h1 h2 hv1 hv2 ht0 hu0 htl Wn;go_enter Tryz.func41,Tryz.ntmps41
   go_upto_region 1 with fail;refine jg (fun wd2 hb1 X Y => ?_);have hw3:=hb1;clear hb1;obtain ⟨aK,bJ⟩:=X.out.c2;obtain ⟨kT,kU⟩:=Y.out.c2;refine wp_region_held_drew (S:=(fun w' => w'.cell? ⟨w.heap.size,0,none⟩=some (.slice A ts.length c)∧w'.cell? ⟨w.heap.size,1,none⟩=some (.int .i64 (i))∧w'.cell? ⟨w.heap.size+1,0,none⟩=some (.slice A' us.length c')∧w'.cell? ⟨w.heap.size+1,1,none⟩=some (.int .i64 (k)))) (by kernel_rfl) ⟨aK,bJ,kT,kU⟩ (fun hHeld => ?_);clear aK bJ kT kU;have hb4:Below wd2.heap.size wd2 (wd2.drew):=(Below.refl _ _).drew;obtain ⟨X,Y⟩:=b2 X Y hb4;replace hw3:=dT hw3 hb4;clear hb4;generalize wd2.drew=fG at *;refine tk 0 ?_;refine iE 1 fun K hK => ?_;go_simp;((with_reducible refine (H1.out _ (HT.out.on hw3)).mono ?_);rintro e wL ⟨rfl,hb7⟩);obtain ⟨X,Y⟩:=b2 X Y hb7;replace hw3:=dT hw3 hb7;clear hb7;(try clear hHeld);refine hK.out _ _ zAr (fun hHeld => ?_);clear hK K;refine tk 2 ?_;refine tk 3 ?_;refine tk 4 ?_;refine iE 5 fun K hK => ?_;go_simp;((with_reducible refine (H2.out _ (HU.out.on hw3)).mono ?_);rintro e qP ⟨rfl,zU⟩);obtain ⟨X,Y⟩:=b2 X Y zU;replace hw3:=dT hw3 zU;clear zU;(try clear hHeld);refine hK.out _ _ zAr (fun hHeld => ?_);clear hK K;refine tk 6 ?_;refine tk 7 ?_;refine tk 8 ?_;refine tk 9 ?_;refine tk 10 ?_;refine tk 11 ?_;refine tk 12 ?_;refine tk 13 ?_;refine tk 15 ?_;refine tk 16 ?_;refine tk 19 ?_;refine tk 20 ?_;refine iE 14 fun K hK => ?_;go_simp;((with_reducible refine (HR.out _ (HT.out.on hw3) (HU.out.on hw3)).mono ?_);rintro e kL ⟨rb,cc,M,rfl,htab,hsh,awg,iR⟩)
   obtain ⟨X,Y⟩:=b2 X Y iR;replace hw3:=dT hw3 iR;clear iR;have hiM:i < M.length:=by rw [hsh.1];exact hil
   have hkM:k < M[i].length:=by rw [hsh.2];exact hkl
   have aoi:M.at_ i k=M[i][k]:=by simp [Tab.at_,List.getD,hiM,hkM]
   obtain ⟨u,hrow⟩:=htab.row hiM;obtain ⟨rg,cu,rfl,-,-,-,hbc,-⟩:=hrow.pos hkM;rw [hsh.2 i hiM] at hrow;have hrc:=hrow.cell;rw [← aoi,awg] at hbc;have KC:=hiQ (Af hrc);have KB:=hiQ (Af hbc);clear hrow hrc hbc aoi htab hsh awg hiM hkM;(try clear hHeld);refine hK.out _ _ zAr (fun hHeld => ?_);clear hK K;refine iE 17 fun K hK => ?_;go_simp;(try clear hHeld);refine hK.out _ _ zAr (fun hHeld => ?_);clear hK K;refine iE 18 fun K hK => ?_;have hrc:=KC.out.now;go_simp;clear hrc;(try clear hHeld);refine hK.out _ _ zAr (fun hHeld => ?_);clear hK K;refine iE 21 fun K hK => ?_;go_simp;(try clear hHeld);refine hK.out _ _ zAr (fun hHeld => ?_);clear hK K;refine iE 22 fun K hK => ?_;have hbc:=KB.out.now;go_simp;clear hbc;(try clear hHeld);refine hK.out _ _ zAr (fun hHeld => ?_);clear hK K;exact zCr
  have hw:Hid (aot ts t us t'=false):=by show _=_;unfold aot;rw [if_neg (fun h => h2 h.2)]
  obtain ⟨r2,hr2⟩ : ∃ r,r=gV us t':=⟨_,rfl⟩
  rw [← hr2] at H2 h2;have t2:(r2 == 0)=false:=by simpa using h2
  clear h1 h2 hr2 hv1 ht0 htl;go_enter Tryz.func41,Tryz.ntmps41
  go_upto_region 1 with fail;refine jg (fun wd2 hb1 X Y => ?_);have hw3:=hb1;clear hb1;obtain ⟨aK,bJ⟩:=X.out.c2;obtain ⟨kT,kU⟩:=Y.out.c2;refine wp_region_held_drew (S:=(fun w' => w'.cell? ⟨w.heap.size,0,none⟩=some (.slice A ts.length c)∧w'.cell? ⟨w.heap.size,1,none⟩=some (.int .i64 (t))∧w'.cell? ⟨w.heap.size+1,0,none⟩=some (.slice A' us.length c')∧w'.cell? ⟨w.heap.size+1,1,none⟩=some (.int .i64 (t')))) (by kernel_rfl) ⟨aK,bJ,kT,kU⟩ (fun hHeld => ?_);clear aK bJ kT kU;have hb4:Below wd2.heap.size wd2 (wd2.drew):=(Below.refl _ _).drew;obtain ⟨X,Y⟩:=b2 X Y hb4;replace hw3:=dT hw3 hb4;clear hb4;generalize wd2.drew=fG at *;refine tk 0 ?_;refine iE 1 fun K hK => ?_;go_simp;((with_reducible refine (H1.out _ (HT.out.on hw3)).mono ?_);rintro e wL ⟨rfl,hb7⟩);obtain ⟨X,Y⟩:=b2 X Y hb7;replace hw3:=dT hw3 hb7;clear hb7;(try clear hHeld);refine hK.out _ _ zAr (fun hHeld => ?_);clear hK K;refine tk 2 ?_;refine tk 3 ?_;refine tk 4 ?_;refine iE 5 fun K hK => ?_;go_simp;((with_reducible refine (H2.out _ (HU.out.on hw3)).mono ?_);rintro e qP ⟨rfl,zU⟩);obtain ⟨X,Y⟩:=b2 X Y zU;replace hw3:=dT hw3 zU;clear zU;(try clear hHeld);refine hK.out _ _ zAr (fun hHeld => ?_);clear hK K;refine tk 6 ?_;exact zBu
 have hw:Hid (aot ts t us t'=false):=by show _=_;unfold aot;rw [if_neg (fun h => h1 h.1)]
 obtain ⟨r1,hr1⟩ : ∃ r,r=gV ts t:=⟨_,rfl⟩
 rw [← hr1] at H1 h1;have t1:(r1 == 0)=false:=by simpa using h1
 clear h1 hr1;go_enter Tryz.func41,Tryz.ntmps41
 go_upto_region 1 with fail;refine jg (fun wd2 hb1 X Y => ?_);have hw3:=hb1;clear hb1;obtain ⟨aK,bJ⟩:=X.out.c2;obtain ⟨kT,kU⟩:=Y.out.c2;refine wp_region_held_drew (S:=(fun w' => w'.cell? ⟨w.heap.size,0,none⟩=some (.slice A ts.length c)∧w'.cell? ⟨w.heap.size,1,none⟩=some (.int .i64 (t))∧w'.cell? ⟨w.heap.size+1,0,none⟩=some (.slice A' us.length c')∧w'.cell? ⟨w.heap.size+1,1,none⟩=some (.int .i64 (t')))) (by kernel_rfl) ⟨aK,bJ,kT,kU⟩ (fun hHeld => ?_);clear aK bJ kT kU;have hb4:Below wd2.heap.size wd2 (wd2.drew):=(Below.refl _ _).drew;obtain ⟨X,Y⟩:=b2 X Y hb4;replace hw3:=dT hw3 hb4;clear hb4;generalize wd2.drew=fG at *;refine tk 0 ?_;refine iE 1 fun K hK => ?_;go_simp;((with_reducible refine (H1.out _ (HT.out.on hw3)).mono ?_);rintro e wL ⟨rfl,hb7⟩);obtain ⟨X,Y⟩:=b2 X Y hb7;replace hw3:=dT hw3 hb7;clear hb7;(try clear hHeld);refine hK.out _ _ zAr (fun hHeld => ?_);exact zIv
theorem azz (ts us:List ay) (A A':Option Addr) (c c':Nat) (t t':Int) (w:World) (hs:Sizes ts) (hs':Sizes us) (ht:aU w w.heap.size (.slice A ts.length c) ts) (hu:aU w w.heap.size (.slice A' us.length c') us) :
  Calls Tryz.prog 15 #[.agg #[.slice A ts.length c,.int .i64 t],.agg #[.slice A' us.length c',.int .i64 t']] w (RTq w (.bool (aot ts t us t'))):=by
 have HT:=hiQ ht;have HU:=hiQ hu;have HR:=hiQ (fun W h1 h2 => ax0 ts us A A' c c' t t' W hs hs' h1 h2);clear ht hu hs hs';go_enter Tryz.func15,Tryz.ntmps15
 exact zHr
theorem aBq (ts:List ay) (A:Option Addr) (c:Nat) (w:World) (hs:Sizes ts) (hv:fF ts=0) (ht:aU w w.heap.size (.slice A ts.length c) ts) :
  Calls Tryz.prog 66 #[.agg #[.slice A ts.length c]] w (aBI ts w):=by
 have HT:=hiQ ht;have hva:=fun W h => aaw ts A c W hs h;rw [hv] at hva;have HVa:=hiQ hva;have HR:=hiQ (fun W h1 h2 => avN ts ts A A c c W (by have:=(akN hv).len;omega) (by have:=(akN hv).len;omega) (akN hv).ah (akN hv).ah (akN hv).inu (akN hv).inu h1 h2);have hlen:=(akN hv).len;have FI:=hiQ (FP hv);clear ht hv hva hs;go_enter Tryz.func66,Tryz.ntmps66
 go_upto_region 1 with fail;refine aO (fun wd2 hb1 S => ?_);have hw3:=hb1;clear hb1;have aH:=S.out.e0;go_wp2_with fail;clear aH;((with_reducible refine (HVa.out _ (HT.out.on hw3)).mono ?_);rintro e wd4 ⟨rfl,hb5⟩);replace S:=b1 S hb5;replace hw3:=dT hw3 hb5;clear hb5;have aH:=S.out.e0;go_wp2_with fail;have hSh:=S.out.here;clear aH;((with_reducible refine (HR.out _ (HT.out.on hw3) (HT.out.on hw3)).mono ?_);rintro e wL ⟨rb,cc,M,rfl,htab,hsh,awg,hb7⟩);replace S:=b1 S hb7;replace hw3:=dT hw3 hb7;clear hb7;have TB:=hiQ (Kept.tab (htab.base (L':=w.heap.size+1) (by omega)));have HSH:=hiQ hsh;have HBI:=hiQ awg;clear htab hsh awg;obtain ⟨LT,hLT⟩ : ∃ L,L=wL.heap.size:=⟨_,rfl⟩
 rw [← hLT] at TB;have aDe:=TB.out;have hS0:=S.out;have hLw:w.heap.size+1≤LT:=by have:=S.out.here;omega
 have hW0:=hw3;have hLs:=Nat.le_of_eq hLT;clear hLT;have hMl:M.length=ts.length:=HSH.out.1;go_upto_region 7 with fail;go_loopw [6,7] (fun s6 s7 wr => ∃ k:Nat,k≤ts.length∧s7 = .int .i64 k∧wr.ownsRow LT 3 1 s6 k ((List.range k).map fun i => .int .i64 (dR ts i:Nat))∧Has wr w.heap.size 25 #[.slice A ts.length c]∧Kept (fun w' => TabAt w' (w.heap.size+1) (.slice (some ⟨rb,0,none⟩) ts.length cc) M) wr (w.heap.size+1) LT∧LT≤wr.heap.size∧Below w.heap.size w wr) (fun _ s7 _ => ts.length - (intOf s7).toNat)
 case atStart => exact ⟨0,by omega,rfl,World.ownsRow_nil _ _ _ _,hS0,aDe,hLs,hW0⟩
 case round =>
  clear TB S hS0 aDe hW0 hLs;obtain ⟨k,hk,rfl,hown,S,hTB,hLs,hb⟩:=hrel;obtain ⟨A0,c0,rfl⟩:=jF hown;replace S:=hiQ S;have aH:=S.out.e0;by_cases hlt:k < ts.length
  ·
   have hi1:(k:Int) < ts.length:=by omega
   have hd0:decide ((k:Int) < 0)=false:=by simp
   have hd1:decide (ts.length≤k)=false:=by simpa using hlt
   have hkM:k < M.length:=by rw [HSH.out.1];exact hlt
   have hcl:=aqA FI.out hlt;have wO:=hiQ (aAo ts k);have HCB:=hiQ (aop.2 (alk FI.out hlt));have HCL:Hid (∀ j,j < dR ts k→aoY ts ts k j=false):=fun j hj => by
    cases hbj:aoY ts ts k j with
    | false => rfl
    | true => have:=atO (aop.1 hbj);omega
   generalize dR ts k=cl at *;go_upto_region 10 with fail;clear aH;have hS1:=S.out;go_loopw [8] (fun s8 wr2 => ∃ j:Nat,j≤cl∧s8 = .int .i64 j∧wr2.ownsRow LT 3 1 (.slice A0 k c0) k ((List.range k).map fun i => .int .i64 (dR ts i:Nat))∧Has wr2 w.heap.size 25 #[.slice A ts.length c]∧Kept (fun w' => TabAt w' (w.heap.size+1) (.slice (some ⟨rb,0,none⟩) ts.length cc) M) wr2 (w.heap.size+1) LT∧LT≤wr2.heap.size∧Below w.heap.size w wr2) (fun s8 _ => cl - (intOf s8).toNat)
   case atStart => exact ⟨0,by omega,rfl,hown,hS1,hTB,hLs,hb⟩
   case round =>
    clear S hS1 hown hTB hLs hb;obtain ⟨j,hj,rfl,hown,S,hTB,hLs,hb⟩:=hrel;replace S:=hiQ S;have TB:=hiQ (hTB);have O:=hiQ (Kept.own hown);clear hTB hown;have hjl:j < ts.length:=by omega
    have hln:M[k].length=ts.length:=HSH.out.2 k hkM;have hjM:j < M[k].length:=by rw [hln];exact hjl
    have aoi:M.at_ k j=M[k][j]:=by simp [Tab.at_,List.getD,hkM,hjM]
    obtain ⟨u,hrow⟩:=TB.out.now.row hkM;obtain ⟨rg,cu,rfl,-,-,-,hbc,-⟩:=hrow.pos hjM;have hrc:=hrow.cell;rw [hln] at hrc;rw [← aoi,HBI.out] at hbc;have hd2:decide ((j:Int) < 0)=false:=by simp
    have hd3:decide (ts.length≤j)=false:=by simpa using hjl
    have hi2:(j:Int) < ts.length:=by omega
    clear hrow aoi hjM hln;by_cases he:j=cl
    ·
     subst he;rw [HCB.out] at hbc;have hbase:LT≤wr.heap.size:=hLs;go_upto_region 12 with fail;go_upto_region 8 with (at_builtin;refine fA rfl _ _ _ rfl LT 3 _ 1 8 Tryz.underlying39 oP rfl (by decide) _ k _ rfl O.out.now [.int .i64 (j:Nat)] _ 1 _ rfl rfl rfl (by simp [Value.oneCell']) (by omega) (by omega) hbase ?_;intro g cap w3 hown3 hg3 hgat hb3)
     clear hg3 hgat hbase hrc hbc O;replace S:=hiQ (S.out.below hb3 (show w.heap.size < LT by omega));replace TB:=hiQ (TB.out.iJ hb3 (show LT≤LT by omega));replace hb:=hb.trans (hb3.mono (show w.heap.size≤LT by omega));have O:=hiQ (Kept.own hown3);clear hown3;go_wp2_with fail;go_roundw
     case rel => exact ⟨k+1,by omega,by go_num,by rw [wO.out];exact O.out.now,S.out,TB.out,by have:=O.out.le;have:=TB.out.le;omega,hb⟩
     case measure => simp [intOf];omega
    rw [HCL.out j (by omega)] at hbc;go_wp2_with fail;clear hrc hbc;go_roundw
    case rel => exact ⟨j+1,by omega,by go_num,O.out.now,S.out,TB.out,hLs,hb⟩
    case measure => simp [intOf];omega
  obtain rfl:k=ts.length:=by omega
  go_wp2_with fail;go_ret2;exact ⟨_,rfl,own_base hown (by omega),hb⟩
def auO (l:List Nat) (a:Nat):Int:=if a ∈ l then (l.idxOf a:Int) else -1
theorem azi:∀ (l:List Nat) (k a:Nat) (hk:k < l.length),l[k]=a→(∀ j,j < k→l[j]?≠some a)→l.idxOf a=k
 | [],_,_,hk,_,_ => by simp at hk
 | b :: r,0,a,_,h,_ => by simp at h;simp [h]
 | b :: r,k+1,a,hk,h,hn => by
  have hb:b≠a:=fun e => hn 0 (by omega) (by simp [e]);rw [List.idxOf_cons,show (b == a)=false by simpa using hb,cond_false,azi r k a (by simpa using hk) (by simpa using h) (fun j hj => by have:=hn (j+1) (by omega);simpa using this)]
theorem ayb (l:List Nat) (a:Nat) (v:Value) (w:World) (hl:l.length≤1000000) (hr:Rd w w.heap.size 1 v l.length (l.map nV)) :
  Calls Tryz.prog 68 #[v,.int .i64 (a:Nat)] w (RTq w (.int .i64 (auO l a))):=by
 obtain ⟨A,c,rfl,hc⟩:=hr.form;have HR:=hiQ hr;clear hr;go_enter Tryz.func68,Tryz.ntmps68
 go_upto_region 2 with fail;go_loopw [5] (fun i wr => ∃ k:Nat,i = .int .i64 k∧k≤l.length∧(∀ j,j < k→l[j]?≠some a)∧Below w.heap.size w wr) (fun i _ => l.length - (intOf i).toNat)
 case atStart => exact ⟨0,rfl,by omega,fun _ h => by omega,Below.refl _ _⟩
 case round =>
  obtain ⟨k,rfl,hk,hn,hb⟩:=hrel;have HN:=hiQ hn;clear hn;by_cases hlt:k < l.length
  ·
   obtain ⟨b,o,rfl,hbb,hcell⟩:=HR.out.at_ (by omega);have hck:=(hb.cell (p:=⟨b,o+k,none⟩) hbb).trans (hcell k (nV l[k]) (by simp [List.getElem?_map,List.getElem?_eq_getElem hlt]));have hi1:(k:Int) < l.length:=by omega
   have hd0:decide ((k:Int) < 0)=false:=by simp
   have hd1:decide (l.length≤k)=false:=by simpa using hlt
   clear hcell;unfold nV at hck;by_cases he:l[k]=a
   ·
    have hx:Hid (auO l a=(k:Int)):=by show _=_;unfold auO;rw [if_pos (he ▸ List.getElem_mem hlt),azi l k a hlt he HN.out]
    rw [he] at hck;clear he;go_wp2_with fail;go_ret;exact ⟨bC hx.out.symm,hb⟩
   have hx:Hid (∀ j,j < k+1→l[j]?≠some a):=fun j hj => by
    by_cases e:j=k
    · subst e;rw [List.getElem?_eq_getElem hlt];intro e2;exact he (Option.some.inj e2)
    exact HN.out j (by omega)
   have hne:((l[k] : Nat):Int)≠(a:Int):=by omega
   have hq:(((l[k] : Nat):Int) == (a:Int))=false:=by simpa using hne
   generalize l[k]=z at *;clear he hne;go_wp2_with fail;go_roundw
   case rel => exact ⟨k+1,by go_num,by omega,hx.out,hb⟩
   case measure => simp [intOf];omega
  have hx:Hid (auO l a = -1):=by
   show _=_;unfold auO;rw [if_neg (fun hm => by
    obtain ⟨j,hj,e⟩:=List.getElem_of_mem hm;exact HN.out j (by omega) (by rw [List.getElem?_eq_getElem hj,e]))]
  go_wp2_with fail;go_ret;exact ⟨bC hx.out.symm,hb⟩
end Go.Proofs.YtlamhkffnlgofaaGreatDoor
