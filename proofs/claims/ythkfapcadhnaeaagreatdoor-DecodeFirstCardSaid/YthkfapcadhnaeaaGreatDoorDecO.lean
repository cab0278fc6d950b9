/- copied: a value that reads the same, all of whose parts are new and no rows of ints. No condition. -/
import Derived.Test.YthkfapcadhnaeaaGreatDoorHAJ
import Derived.Test.YthkfapcadhnaeaaGreatDoorHAK
import Derived.Test.YthkfapcadhnaeaaGreatDoorHAH
set_option maxHeartbeats 1600000
namespace Go.Proofs.YthkfapcadhnaeaaGreatDoor
open Go.ChangeShapes Go.WideShapes Go.ChangeAt Go.RowKit
theorem zH (g:Nat):∀ (vs:List Value) (o:Nat) (w:World) (k:Nat),k≠g→(w.setCells g o vs).heap[k]?=w.heap[k]?
 | [],_,_,_,_ => rfl
 | v :: r,o,w,k,hk => (zH g r (o+1) (w.setCell ⟨g,o,none⟩ v) k hk).trans (Below.heap_setCell w ⟨g,o,none⟩ v k hk)
def ai1 (x:Val) (w:World) (e:Ending) (w':World):Prop :=
 ∃ vk vi vr,e = .returned (iC x vk vi vr)∧jq w' (lV w w') x vk vi vr∧Below w.heap.size w w'
theorem Kept.mark {w:World} {n:Nat} (h:n=w.heap.size):Kept (fun _ => True) w n n:=⟨trivial,fun _ _ => trivial,by omega⟩
theorem Kept.kM {w:World} {base m n size:Nat} {e:TypeId} {v:Value} {xs:List Value} (h:w.ownsRow base e size v n xs) (hm:m=w.heap.size):Kept (fun w => w.ownsRow base e size v n xs) w base m:=hm ▸ Kept.own h
theorem Kept.ahb {w:World} {base n c g size:Nat} {e:TypeId} {xs:List Value} (h:w.ownsRow base e size (.slice (some ⟨g,0,none⟩) n c) n xs):Kept (fun w => w.ownsRow base e size (.slice (some ⟨g,0,none⟩) n c) n xs) w g (g+1) :=
 ⟨h,fun _ hk => kP h fun b hb => by
  simp only [Value.ownBlock,Option.some.injEq] at hb;subst hb;exact hk _ (Nat.le_refl _) (Nat.lt_succ_self _),(h.lt g rfl).2⟩
theorem su.at_ {y:Val} {vk vi vr:Value} {W1 W:World} {L B:Nat} (h:jq W (lV W1 W) y vk vi vr) (hL:L=W1.heap.size) (hB:B=W.heap.size):Kept (su L B y vk vi vr) W L B:=by
 subst hL;subst hB
 have hN:su W1.heap.size W.heap.size y vk vi vr W:=⟨lV W1 W,h,fun k h => h⟩
 exact ⟨hN,fun _ hk => (hN.kept (Nat.le_refl _)).st _ (fun k h1 h2 _ => hk k h1 h2),Nat.le_refl _⟩
theorem Kept.vals {w:World} {S:Nat→Prop} {L B:Nat} {v:Value} {xs:List Val} (h:jv w S v xs) (hS:∀ b,S b→L≤b∧b < B∧iy w b) (hB:B≤w.heap.size):Kept (fun W => ∃ S,jv W S v xs∧∀ b,S b→L≤b∧b < B∧iy W b) w L B :=
 ⟨⟨S,h,hS⟩,fun _ hk => ⟨S,h.keep (fun p hp => World.cell?_of_block (hk p.block (hS _ hp).1 (hS _ hp).2.1)) (fun _ h => h),fun b hb => ⟨(hS b hb).1,(hS b hb).2.1,iy.to (hk b (hS b hb).1 (hS b hb).2.1) (hS b hb).2.2⟩⟩,hB⟩
theorem Qv {w W:World} {L B:Nat} {v:Value} {xs:List Val} (h:∃ S,jv W S v xs∧∀ b,S b→L≤b∧b < B∧iy W b) (hL:w.heap.size≤L) (hB:B≤W.heap.size):jv W (lV w W) v xs:=by
 obtain ⟨S,h1,h2⟩:=h
 exact h1.keep (fun _ _ => rfl) fun b hb => ⟨Nat.le_trans hL (h2 b hb).1,Nat.lt_of_lt_of_le (h2 b hb).2.1 hB,(h2 b hb).2.2⟩
theorem U4 {w W:World} {L n size:Nat} {T:TypeId} {v:Value} {xs:List Value} (h:W.ownsRow L T size v n xs) (hT:T≠3) (hL:w.heap.size≤L):II W (lV w W) size v n xs:=by
 obtain ⟨hl,A,c,hv,hc,h2⟩:=Rd.pq h
 refine ⟨hl,A,c,hv,hc,?_⟩
 rcases h2 with h2 | ⟨b,o,hA,hb,hcell⟩
 · exact .inl h2
 have ho:v.ownBlock=some b:=by rw [hv,hA];rfl
 exact .inr ⟨b,o,hA,⟨Nat.le_trans hL (h.lt b ho).1,hb,Du h hT ho⟩,hcell⟩
structure Fe (w wo:World) (KN:List Val) (v:Value) (L k:Nat) (wr:World):Prop where
 ex:∃ (c:Nat→List Value) (xs:List Value),wr.ownsRow L 30 8 v KN.length xs∧BZ 8 KN.length xs c ∧
  (∀ (i:Nat) (h:i < KN.length),i < k→jT wr (fun b => wo.heap.size≤b∧b < wr.heap.size∧iy wr b) KN[i] (c i))∧∀ (i:Nat) (h:i < KN.length),k≤i→jT wr (· < w.heap.size) KN[i] (c i)
 far:∀ b,b < wo.heap.size→v.ownBlock≠some b→wr.heap[b]?=wo.heap[b]?
 bel:Below L wo wr
def Rng (L L' B:Nat) (w:World) (b:Nat):Prop:=(L≤b∧b < L'∨B≤b∧b < w.heap.size)∧iy w b
theorem Fe.done {w wo:World} {KN:List Val} {v:Value} {L L':Nat} {wr:World} (h:Fe w wo KN v L KN.length wr) (hL:∀ b,v.ownBlock=some b→b < L'):jv wr (Rng L L' wo.heap.size wr) v KN:=by
 obtain ⟨⟨c,xs,h1,h2,h3,_⟩,_,_⟩:=h
 exact ⟨c,(xR.acR h1 h2).keep (fun _ _ => rfl) (fun b hb => ⟨.inl ⟨(h1.lt b hb).1,hL b hb⟩,Du h1 (by decide) hb⟩),fun i hi => (h3 i hi hi).keep (fun _ _ => rfl) (fun b hb => ⟨.inr ⟨hb.1,hb.2.1⟩,hb.2.2⟩)⟩
set_option maxRecDepth 100000 in
theorem WR:∀ (N:Nat) (x:Val) (vk vi vr:Value) (w:World),wt x≤N→ValAt w w.heap.size x vk vi vr →
  Calls Tryz.prog 137 #[iC x vk vi vr] w (ai1 x w):=by
 intro N
 induction N with
 | zero => intro x vk vi vr w h;have:=aaZ x;omega
 | succ N ih =>
  intro x vk vi vr w hN hv
  have hwe:=aeY x
  have hkl:=Xg x.keys
  have hil:=Xg x.items
  have hkeys:=hv.keys
  have l7:=hv.items
  have hrest:=hv.rest
  obtain ⟨A1,n1,A2,n2,A3,n3,rfl,rfl,rfl,-,-,-⟩:=hv.forms
  have IH:=Lib.hid ih
  have HV:=Lib.hid hv
  obtain ⟨ck,aeZ,X7⟩:=hkeys
  obtain ⟨ci,ae0,X8⟩:=l7
  have hb1:Eo x.keys≤N:=by omega
  have hb2:Eo x.items≤N:=by omega
  have hlz:=hv.I7
  have HKL:Hid (∀ i,i < x.keys.length→(ck i).length=8):=Lib.hid fun i hi => by obtain ⟨_,_,_,h,_⟩:=(X7 i hi).inv;rw [h];rfl
  have wB:Hid (∀ i,i < x.items.length→(ci i).length=8):=Lib.hid fun i hi => by obtain ⟨_,_,_,h,_⟩:=(X8 i hi).inv;rw [h];rfl
  have one:∀ (l:List Val) (c:Nat→List Value),(∀ i,i < l.length→(c i).length=8)→(∀ (i:Nat) (h:i < l.length),mP w w.heap.size l[i] (c i))→∀ u ∈ jA c l.length,u.oneCell'=true:=by
   intro l c hl hel u hu
   obtain ⟨q,hq⟩:=List.mem_iff_getElem?.1 hu
   obtain ⟨h1,h2⟩:=Qw c 8 _ (by omega) hl q u hq
   obtain ⟨a1,a2,a3,h,hva⟩:=(hel _ h1).inv
   obtain ⟨_,_,_,_,_,_,rfl,rfl,rfl,-,-,-⟩:=hva.forms
   rw [h] at h2
   exact acS _ _ _ _ rfl rfl rfl u (List.mem_of_getElem? h2)
  have HCK:Hid (∀ W,Below w.heap.size w W→Calls Tryz.prog 168 #[.slice A1 x.keys.length n1] W (zI W 30 8 x.keys.length (jA ck x.keys.length))):=Lib.hid fun W hb => by
   obtain ⟨hr1,hr2,hr3⟩:=(aeZ.keep (w':=W) fun p hp => hb.cell hp).flat' hb.size (by omega) HKL.out
   exact N8 x.keys.length A1 n1 _ W (by omega) hr1 (rY _ _ _ HKL.out) hr2 hr3 (one _ _ HKL.out X7)
  have HCI:Hid (∀ W,Below w.heap.size w W→Calls Tryz.prog 168 #[.slice A2 x.items.length n2] W (zI W 30 8 x.items.length (jA ci x.items.length))):=Lib.hid fun W hb => by
   obtain ⟨hr1,hr2,hr3⟩:=(ae0.keep (w':=W) fun p hp => hb.cell hp).flat' hb.size (by omega) wB.out
   exact N8 x.items.length A2 n2 _ W (by omega) hr1 (rY _ _ _ wB.out) hr2 hr3 (one _ _ wB.out X8)
  have HCR:Hid (∀ W,Below w.heap.size w W→Calls Tryz.prog 169 #[.slice A3 x.rest.length n3] W (zI W 123 2 x.rest.length (iV x.rest))):=Lib.hid fun W hb => by
   obtain ⟨hr1,hr2,hr3⟩:=((hrest.below hb).mono hb.size).flat (Nat.le_refl _)
   exact X9 x.rest.length A3 n3 _ W (by omega) hr1 (acT _) hr2 hr3 (acU _)
  have HKE:=Lib.hid X7
  have HIE:=Lib.hid X8
  clear ih hv hwe aeZ ae0 X7 X8 hrest one
  go_enter Tryz.func137,Tryz.ntmps137
  go_upto_region 1 with fail
  generalize dJ:w.alloc _=wd2
  generalize jD:wd2.alloc _=wd4
  have ⟨hb1,B,Z⟩:=dN dJ jD
  clear dJ jD
  have hw6:=hb1
  clear hb1
  obtain ⟨-,-,-,-,-,zJ,zK,I8⟩:=B.out.c8
  refine wW (S:=(fun w' => w'.cell? ⟨w.heap.size,5,none⟩=some (.slice A1 x.keys.length n1)∧w'.cell? ⟨w.heap.size,6,none⟩=some (.slice A2 x.items.length n2)∧w'.cell? ⟨w.heap.size,7,none⟩=some (.slice A3 x.rest.length n3))) (fun j => j == 10 || j == 11 || j == 12 || j == 13 || j == 14) (by kernel_rfl) ⟨zJ,zK,I8⟩ (fun hHeld => ?_)
  clear zJ zK I8
  have hb7:Below wd4.heap.size wd4 (wd4.drew):=(Below.refl _ _).drew
  obtain ⟨B,Z⟩:=b2 B Z hb7
  replace hw6:=dT hw6 hb7
  clear hb7
  generalize wd4.drew=uJ at *
  refine lC (i:=0) (v := ?k9) ?_
  simp only [ah]
  refine lC (i:=1) (v := ?k10) ?_
  simp only [ah]
  refine lC (i:=3) (v := ?k11) ?_
  simp only [ah]
  refine lC (i:=4) (v := ?k12) ?_
  simp only [ah]
  refine lC (i:=6) (v := ?k13) ?_
  simp only [ah]
  refine lC (i:=7) (v := ?k14) ?_
  simp only [ah]
  refine Bl (i:=2) (fun K hK => ?_)
  go_simp
  have hz5:=Z.out.here
  obtain ⟨L5,h5e⟩ : ∃ n,n=(uJ).heap.size:=⟨_,rfl⟩
  have M5:=Lib.hid (Kept.mark h5e)
  ((with_reducible refine (HCK.out _ hw6).mono ?_);rintro e lD ⟨v5,rfl,hown5,hb16⟩)
  obtain ⟨B,Z,M5⟩:=b3 B Z M5 hb16
  replace hw6:=dT hw6 hb16
  clear hb16
  obtain ⟨A5,c5,rfl⟩:=aF hown5
  rw [← h5e] at hown5 hz5
  clear h5e
  have hL6:=M5.out.le
  obtain ⟨L6,zx⟩ : ∃ n,n=(lD).heap.size:=⟨_,rfl⟩
  rw [← zx] at hL6
  have O5:=Lib.hid (Kept.kM hown5 zx)
  have HS5:Hid (∀ b,(Value.slice A5 x.keys.length c5).ownBlock=some b→L5≤b∧b < L6):=Lib.hid fun b hb => by rw [zx];exact hown5.lt b hb
  have M6:=Lib.hid (Kept.mark zx)
  clear M5
  clear hown5
  try clear hHeld
  refine hK.out _ _ (⟨B.out.cell 5,⟨B.out.cell 6,B.out.cell 7⟩⟩) (fun hHeld => ?_)
  clear hK K
  refine lC (i:=9) (v := ?k17) ?_
  simp only [ah]
  refine Bl (i:=5) (fun K hK => ?_)
  go_simp
  ((with_reducible refine (HCI.out _ hw6).mono ?_);rintro e qY ⟨v6,rfl,hown6,pz⟩)
  obtain ⟨B,Z,O5,M6⟩:=b4 B Z O5 M6 pz
  replace hw6:=dT hw6 pz
  clear pz
  obtain ⟨A6,c6,rfl⟩:=aF hown6
  rw [← zx] at hown6
  clear zx
  have hL7:=M6.out.le
  obtain ⟨L7,Dv⟩ : ∃ n,n=(qY).heap.size:=⟨_,rfl⟩
  rw [← Dv] at hL7
  have O6:=Lib.hid (Kept.kM hown6 Dv)
  have HS6:Hid (∀ b,(Value.slice A6 x.items.length c6).ownBlock=some b→L6≤b∧b < L7):=Lib.hid fun b hb => by rw [Dv];exact hown6.lt b hb
  have M7:=Lib.hid (Kept.mark Dv)
  clear M6
  clear hown6
  try clear hHeld
  refine hK.out _ _ (⟨B.out.cell 5,⟨B.out.cell 6,B.out.cell 7⟩⟩) (fun hHeld => ?_)
  clear hK K
  refine Bl (i:=8) (fun K hK => ?_)
  go_simp
  ((with_reducible refine (HCR.out _ hw6).mono ?_);rintro e nS ⟨v7,rfl,RY,mQ⟩)
  obtain ⟨B,Z,O5,O6,M7⟩:=b5 B Z O5 O6 M7 mQ
  replace hw6:=dT hw6 mQ
  clear mQ
  obtain ⟨A7,c7,rfl⟩:=aF RY
  rw [← Dv] at RY
  clear Dv
  have hL8:=M7.out.le
  obtain ⟨L8,h8e⟩ : ∃ n,n=(nS).heap.size:=⟨_,rfl⟩
  rw [← h8e] at hL8
  have O7:=Lib.hid (Kept.kM RY h8e)
  have M8:=Lib.hid (Kept.mark h8e)
  clear M7
  clear RY h8e
  try clear hHeld
  refine hK.out _ _ (⟨B.out.cell 5,⟨B.out.cell 6,B.out.cell 7⟩⟩) (fun hHeld => ?_)
  clear hK K
  refine zL (i:=10) (fun K hK => ?_)
  have zJ:=B.out.e5
  have alD:=B.out.free 5
  go_simp
  clear zJ alD
  generalize mV:nS.setCell _ _=rC
  obtain ⟨Z,O5,O6,O7,M8⟩:=f5 Z O5 O6 O7 M8 (eF mV)
  replace B:=Xe B mV
  replace hw6:=tf hw6 mV
  clear mV
  try clear hHeld
  refine hK.out _ _ ?_
  clear hK K
  refine zL (i:=11) (fun K hK => ?_)
  go_simp
  try clear hHeld
  refine hK.out _ _ ?_
  clear hK K
  refine zL (i:=12) (fun K hK => ?_)
  have zK:=B.out.e6
  have alE:=B.out.free 6
  go_simp
  clear zK alE
  generalize jQ:rC.setCell _ _=kF
  obtain ⟨Z,O5,O6,O7,M8⟩:=f5 Z O5 O6 O7 M8 (eF jQ)
  replace B:=uf B jQ
  replace hw6:=tf hw6 jQ
  clear jQ
  try clear hHeld
  refine hK.out _ _ ?_
  clear hK K
  refine zL (i:=13) (fun K hK => ?_)
  go_simp
  try clear hHeld
  refine hK.out _ _ ?_
  clear hK K
  refine zL (i:=14) (fun K hK => ?_)
  have I8:=B.out.e7
  have alF:=B.out.free 7
  go_simp
  clear I8 alF
  generalize oJ:kF.setCell _ _=qZ
  obtain ⟨Z,O5,O6,O7,M8⟩:=f5 Z O5 O6 O7 M8 (eF oJ)
  replace B:=U5 B oJ
  replace hw6:=tf hw6 oJ
  clear oJ
  try clear hHeld
  refine hK.out _ _ ?_
  clear hK K
  refine wX (by kernel_rfl) ?_ _
  try clear hHeld
  clear M8
  have hl1:Hid (Fe w qZ x.keys (.slice A5 x.keys.length c5) L5 0 qZ):=Lib.hid ⟨⟨_,_,O5.out.now,BZ.Xh _ _ _ HKL.out,fun i h1 h2 => by omega,fun i h1 _ => ((HKE.out i h1).toP.keep (fun p hp => (hw6).cell hp) (fun _ h => h))⟩,fun _ _ _ => rfl,Below.refl _ _⟩
  have hz8:L8≤qZ.heap.size:=O7.out.le
  have hb0:=hw6
  obtain ⟨wo,rfl⟩ : ∃ wo,wo=qZ:=⟨_,rfl⟩
  have HB1:=Lib.hid B.out
  have HZ1:=Lib.hid Z.out
  have zJ:=B.out.e5
  go_upto_region 3 with fail
  clear B Z zJ
  go_loopw [22] (fun i wr => ∃ k:Nat,i = .int .i64 k∧k≤x.keys.length∧Fe w wo x.keys (.slice A5 x.keys.length c5) L5 k wr∧Has wr w.heap.size 30 #[.int .i64 x.kind,.bool x.bool,.int .i64 x.num,.string ⟨x.str.toArray⟩,.int .i64 x.id,(.slice A5 x.keys.length c5),(.slice A6 x.items.length c6),(.slice A7 x.rest.length c7)]∧Has wr (w.heap.size+1) 30 #[.int .i64 0,.bool false,.int .i64 0,.string ⟨#[]⟩,.int .i64 0,.slice none 0 0,.slice none 0 0,.slice none 0 0]∧Below w.heap.size w wr) (fun i _ => x.keys.length - (intOf i).toNat)
  case atStart => exact ⟨0,rfl,by omega,hl1.out,HB1.out,HZ1.out,hb0⟩
  case round =>
   clear HB1 HZ1 hl1 hb0
   obtain ⟨k,rfl,hk,hC,B,Z,hb0⟩:=hrel
   replace B:=Lib.hid B
   replace Z:=Lib.hid Z
   obtain ⟨⟨c,xs,hown,Dw,hdone,htodo⟩,zM,hbel⟩:=hC
   by_cases hlt:k < x.keys.length
   ·
    obtain ⟨g,rfl⟩ : ∃ g,A5=some ⟨g,0,none⟩:=by
     rcases hown.2 with ⟨h,h2⟩ | ⟨g,cap,cur,h,_⟩
     · omega
     injection h with h;exact ⟨g,h⟩
    obtain ⟨ak,ai,ar,hck,hva⟩:=((htodo k hlt (Nat.le_refl _)).rd (B:=w.heap.size) (fun _ h => h)).inv
    have hy:∀ j u,(iQ x.keys[k] ak ai ar)[j]?=some u→wr.cell? ⟨g,k*8+j,none⟩=some u:=fun j u hu => by
     have h8:k*8+j < x.keys.length*8:=by
      have hj:=(List.getElem?_eq_some_iff.1 hu).1
      simp only [iQ,List.length_cons,List.length_nil] at hj
      omega
     rw [hown.cellAt _ h8]
     exact Dw.2.2 k hlt j u (by rw [hck];exact hu)
    have hmem:wt x.keys[k]≤N:=by have:=Xi x.keys _ (List.getElem_mem hlt);omega
    have hi1:(k:Int) < x.keys.length:=by omega
    have hd0:decide ((k:Int) < 0)=false:=by simp
    have hd1:decide (x.keys.length≤k)=false:=by simpa using hlt
    obtain ⟨Y1,m1,Y2,m2,Y3,m3,rfl,rfl,rfl,-,-,-⟩:=hva.forms
    have y0:=hy 0 _ rfl
    have y1:=hy 1 _ rfl
    have y2:=hy 2 _ rfl
    have y3:=hy 3 _ rfl
    have y4:=hy 4 _ rfl
    have y5:=hy 5 _ rfl
    have y6:=hy 6 _ rfl
    have y7:=hy 7 _ rfl
    simp only [Nat.add_zero] at y0
    have HVA:=Lib.hid hva
    have OW:=Lib.hid (Kept.ahb hown)
    have acV:=Lib.hid Dw
    have Ya:=Lib.hid hdone
    have Yb:=Lib.hid htodo
    have xU:=Lib.hid hmem
    have acW:=Lib.hid zM
    have hgb:=HS5.out g rfl
    have hsw:=hbel.size
    clear hy hva hown Dw hdone htodo hmem hck zM
    generalize hyy:x.keys[k]=y at *
    have Hyy:=Lib.hid hyy
    have acX:=hb0
    clear hyy
    go_upto_region 5 with fail
    clear y0 y1 y2 y3 y4 y5 y6 y7
    generalize tJ:wr.alloc _=Bo
    have ⟨LV,X⟩:=bH tJ
    clear tJ
    obtain ⟨B,Z,OW⟩:=b3 B Z OW LV
    have Dx:=LV
    clear LV
    have zJ:=B.out.e5
    obtain ⟨aI,bI,bQ,bT,bW,dD,bK,bJ⟩:=X.out.c8
    refine wp_region_held_drew (S:=(fun w' => w'.cell? ⟨w.heap.size,5,none⟩=some (.slice (some ⟨g,0,none⟩) x.keys.length c5)∧w'.cell? ⟨wr.heap.size,0,none⟩=some (.int .i64 y.kind)∧w'.cell? ⟨wr.heap.size,1,none⟩=some (.bool y.bool)∧w'.cell? ⟨wr.heap.size,2,none⟩=some (.int .i64 y.num)∧w'.cell? ⟨wr.heap.size,3,none⟩=some (.string ⟨y.str.toArray⟩)∧w'.cell? ⟨wr.heap.size,4,none⟩=some (.int .i64 y.id)∧w'.cell? ⟨wr.heap.size,5,none⟩=some (.slice Y1 y.keys.length m1)∧w'.cell? ⟨wr.heap.size,6,none⟩=some (.slice Y2 y.items.length m2)∧w'.cell? ⟨wr.heap.size,7,none⟩=some (.slice Y3 y.rest.length m3))) (by kernel_rfl) ⟨zJ,aI,bI,bQ,bT,bW,dD,bK,bJ⟩ (fun hHeld => ?_)
    clear zJ aI bI bQ bT bW dD bK bJ
    have rJ:Below Bo.heap.size Bo (Bo.drew):=(Below.refl _ _).drew
    obtain ⟨B,Z,X,OW⟩:=b4 B Z X OW rJ
    replace Dx:=dT Dx rJ
    clear rJ
    generalize Bo.drew=mW at *
    refine tk (i:=0) (v := ?k34) ?_
    simp only [ah]
    refine tk (i:=1) (v := ?k35) ?_
    simp only [ah]
    refine tk (i:=2) (v := ?k36) ?_
    simp only [ah]
    refine tk (i:=3) (v := ?k37) ?_
    simp only [ah]
    refine fH (i:=4) (fun K hK => ?_)
    go_simp
    obtain ⟨z6,zx⟩ : ∃ z,z=(mW).heap.size:=⟨_,rfl⟩
    have hzz:=(Dx).size
    rw [← zx] at hzz
    ((with_reducible refine (IH.out y _ _ _ _ xU.out (HVA.out.keep (fun p hp => ((Dx).cell (by omega))) (by omega))).mono ?_);rintro e sD ⟨zk,zi,zr,rfl,hz,Dy⟩)
    obtain ⟨B,Z,X,OW⟩:=b4 B Z X OW Dy
    replace Dx:=dT Dx Dy
    clear Dy
    obtain ⟨_,⟨Z1,z1,rfl,_⟩,_⟩:=id hz.keys
    obtain ⟨_,⟨Z2,z2,rfl,_⟩,_⟩:=id hz.items
    obtain ⟨_,Z3,z3,rfl,_⟩:=id hz.rest
    obtain ⟨z7,Dv⟩ : ∃ z,z=(sD).heap.size:=⟨_,rfl⟩
    have HZ:=Lib.hid (su.at_ hz zx Dv)
    clear hz zx Dv
    try clear hHeld
    refine hK.out _ _ (⟨B.out.cell 5,X.out.c8⟩) (fun hHeld => ?_)
    clear hK K
    refine tk (i:=5) (v := ?k40) ?_
    simp only [ah]
    refine fH (i:=6) (fun K hK => ?_)
    have U6:=OW.out.now
    clear OW
    refine FQ rfl 30 _ _ rfl g (k*8) _ rfl rfl (Qx U6 (k*8) 8 (FT hlt)) (by kernel_rfl) (by simp [Value.oneCell']) ?_
    have U7:=Dz (iQ y (.slice Z1 y.keys.length z1) (.slice Z2 y.items.length z2) (.slice Z3 y.rest.length z3)) xs (k*8) _ U6
    change K _ (sD.setCells g (k*8) (iQ y (.slice Z1 y.keys.length z1) (.slice Z2 y.items.length z2) (.slice Z3 y.rest.length z3)))
    have hf7:=fun b h => (Dx).block b h
    have hs7:=(Dx).size
    have hb7:=Dx
    obtain ⟨kX,HEX⟩ : ∃ ww,ww=sD.setCells g (k*8) (iQ y (.slice Z1 y.keys.length z1) (.slice Z2 y.items.length z2) (.slice Z3 y.rest.length z3)):=⟨_,rfl⟩
    rw [← HEX]
    have hkX:∀ k,k≠g→kX.heap[k]?=sD.heap[k]?:=fun k hk => by rw [HEX];exact zH g _ _ _ k hk
    have hbX:Below g sD kX:=by rw [HEX];exact below_setCells (Nat.le_refl _) _ _ _ (Below.refl _ _)
    replace B:=Lib.hid ((hkX (w.heap.size) (by omega)).trans B.out)
    replace B:Hid (Has kX (w.heap.size) 30 #[.int .i64 x.kind,.bool x.bool,.int .i64 x.num,.string ⟨x.str.toArray⟩,.int .i64 x.id,.slice (some ⟨g,0,none⟩) x.keys.length c5,.slice A6 x.items.length c6,.slice A7 x.rest.length c7]):=B
    replace Z:=Lib.hid ((hkX (w.heap.size+1) (by omega)).trans Z.out)
    replace Z:Hid (Has kX (w.heap.size+1) 30 #[.int .i64 0,.bool false,.int .i64 0,.string ⟨#[]⟩,.int .i64 0,.slice none 0 0,.slice none 0 0,.slice none 0 0]):=Z
    replace X:=Lib.hid ((hkX (wr.heap.size) (by omega)).trans X.out)
    replace X:Hid (Has kX (wr.heap.size) 30 #[.int .i64 y.kind,.bool y.bool,.int .i64 y.num,.string ⟨y.str.toArray⟩,.int .i64 y.id,.slice Y1 y.keys.length m1,.slice Y2 y.items.length m2,.slice Y3 y.rest.length m3]):=X
    replace HZ:=Lib.hid (HZ.out.move (fun k hl hb => hkX k (by omega)) hbX.size)
    replace Dx:=(Dx.mono (show g≤wr.heap.size by omega)).trans hbX
    rw [← HEX] at U7
    try clear hHeld
    refine hK.out _ _ (⟨B.out.cell 5,X.out.c8⟩) (fun hHeld => ?_)
    clear hK K
    refine wpAnyH_done (by kernel_rfl) ?_ _
    try clear hHeld
    have yO:∀ b,b≠g→b < wr.heap.size→kX.heap[b]?=wr.heap[b]?:=fun b h1 h2 => (hkX b h1).trans (hf7 b h2)
    have hsX:wr.heap.size≤kX.heap.size:=Nat.le_trans hs7 hbX.size
    have N9:=acV.out.set k (iQ y (.slice Z1 y.keys.length z1) (.slice Z2 y.items.length z2) (.slice Z3 y.rest.length z3)) hlt rfl
    have hzN:=HZ.out.now
    have hzL:=HZ.out.le
    have hb8:=((hb7.mono (show g≤wr.heap.size by omega)).trans hbX)
    have hC8:Fe w wo x.keys (.slice (some ⟨g,0,none⟩) x.keys.length c5) L5 (k+1) kX:=by
     refine ⟨⟨_,_,U7,N9,fun i h1 h2 => ?_,fun i h1 h2 => ?_⟩,fun b h1 h2 => ?_,hbel.trans (hb8.mono (by omega))⟩
     ·
      by_cases e:i=k
      ·
       subst e
       rw [if_pos rfl,Hyy.out]
       obtain ⟨S,hv,hS⟩:=hzN
       exact hv.rd.keep (fun _ _ => rfl) (fun b hb => ⟨by have:=(hS b hb).1;omega,by have:=(hS b hb).2.1;omega,(hS b hb).2.2⟩)
      rw [if_neg e]
      exact (Ya.out i h1 (by omega)).keep (fun p hp => World.cell?_of_block (yO p.block (by have:=hp.1;omega) hp.2.1)) (fun b hb => ⟨hb.1,by have:=hb.2.1;omega,iy.to (yO b (by have:=hb.1;omega) hb.2.1) hb.2.2⟩)
     ·
      rw [if_neg (by omega)]
      exact (Yb.out i h1 (by omega)).keep (fun p hp => World.cell?_of_block (yO p.block (by have:p.block < w.heap.size:=hp;omega) (by have:p.block < w.heap.size:=hp;omega))) (fun _ h => h)
     have hne:b≠g:=fun e => h2 (by rw [e];rfl)
     exact (yO b hne (by omega)).trans (acW.out b h1 h2)
    have acY:=acX.trans (hb8.mono (by omega))
    have HC8:=Lib.hid hC8
    clear hC8 hzN N9 yO U7 U6 hf7 hb7 hkX hbX HEX hb8
    clear X
    clear HZ
    go_wp2_with fail
    go_roundw
    case rel => exact ⟨k+1,by go_num,by omega,HC8.out,B.out,Z.out,acY⟩
    case measure => simp [intOf];omega
   obtain rfl:k=x.keys.length:=by omega
   have hsw:=hbel.size
   have hCd:jv wr (Rng L5 L6 wo.heap.size wr) (.slice A5 x.keys.length c5) x.keys:=Fe.done ⟨⟨c,xs,hown,Dw,hdone,htodo⟩,zM,hbel⟩ (fun b hb => (HS5.out b hb).2)
   have hO6:=O6.out.move (w':=wr) (fun q h1 h2 => zM q (by omega) (fun e => by have:=HS5.out q e;omega)) hsw
   have hO7:=O7.out.move (w':=wr) (fun q h1 h2 => zM q (by omega) (fun e => by have:=HS5.out q e;omega)) hsw
   have hl2:Hid (Fe w wr x.items (.slice A6 x.items.length c6) L6 0 wr):=Lib.hid ⟨⟨_,_,hO6.now,BZ.Xh _ _ _ wB.out,fun i h1 h2 => by omega,fun i h1 _ => ((HIE.out i h1).toP.keep (fun p hp => hb0.cell hp) (fun _ h => h))⟩,fun _ _ _ => rfl,Below.refl _ _⟩
   have HCd:=Lib.hid hCd
   have HO7:=Lib.hid hO7
   have HB1:=Lib.hid B.out
   have HZ1:=Lib.hid Z.out
   have hz9:L8≤wr.heap.size:=by omega
   clear hCd hO6 hO7 hown Dw hdone htodo zM hbel O5 O6 O7
   obtain ⟨U8,rfl⟩ : ∃ U8:World,U8=wr:=⟨_,rfl⟩
   have zK:=B.out.e6
   go_upto_region 8 with fail
   clear B Z zK
   go_loopw [37] (fun i wr => ∃ k:Nat,i = .int .i64 k∧k≤x.items.length∧Fe w U8 x.items (.slice A6 x.items.length c6) L6 k wr∧Has wr w.heap.size 30 #[.int .i64 x.kind,.bool x.bool,.int .i64 x.num,.string ⟨x.str.toArray⟩,.int .i64 x.id,.slice A5 x.keys.length c5,.slice A6 x.items.length c6,.slice A7 x.rest.length c7]∧Has wr (w.heap.size+1) 30 #[.int .i64 0,.bool false,.int .i64 0,.string ⟨#[]⟩,.int .i64 0,.slice none 0 0,.slice none 0 0,.slice none 0 0]∧Below w.heap.size w wr) (fun i _ => x.items.length - (intOf i).toNat)
   case atStart => exact ⟨0,rfl,by omega,hl2.out,HB1.out,HZ1.out,hb0⟩
   case round =>
    clear HB1 HZ1 hl2 hb0
    obtain ⟨k,rfl,hk,hC,B,Z,hb0⟩:=hrel
    replace B:=Lib.hid B
    replace Z:=Lib.hid Z
    obtain ⟨⟨c,xs,hown,Dw,hdone,htodo⟩,zM,hbel⟩:=hC
    by_cases hlt:k < x.items.length
    ·
     obtain ⟨g,rfl⟩ : ∃ g,A6=some ⟨g,0,none⟩:=by
      rcases hown.2 with ⟨h,h2⟩ | ⟨g,cap,cur,h,_⟩
      · omega
      injection h with h;exact ⟨g,h⟩
     obtain ⟨ak,ai,ar,hck,hva⟩:=((htodo k hlt (Nat.le_refl _)).rd (B:=w.heap.size) (fun _ h => h)).inv
     have hy:∀ j u,(iQ x.items[k] ak ai ar)[j]?=some u→wr.cell? ⟨g,k*8+j,none⟩=some u:=fun j u hu => by
      have h8:k*8+j < x.items.length*8:=by
       have hj:=(List.getElem?_eq_some_iff.1 hu).1
       simp only [iQ,List.length_cons,List.length_nil] at hj
       omega
      rw [hown.cellAt _ h8]
      exact Dw.2.2 k hlt j u (by rw [hck];exact hu)
     have hmem:wt x.items[k]≤N:=by have:=Xi x.items _ (List.getElem_mem hlt);omega
     have hi1:(k:Int) < x.items.length:=by omega
     have hd0:decide ((k:Int) < 0)=false:=by simp
     have hd1:decide (x.items.length≤k)=false:=by simpa using hlt
     obtain ⟨Y1,m1,Y2,m2,Y3,m3,rfl,rfl,rfl,-,-,-⟩:=hva.forms
     have y0:=hy 0 _ rfl
     have y1:=hy 1 _ rfl
     have y2:=hy 2 _ rfl
     have y3:=hy 3 _ rfl
     have y4:=hy 4 _ rfl
     have y5:=hy 5 _ rfl
     have y6:=hy 6 _ rfl
     have y7:=hy 7 _ rfl
     simp only [Nat.add_zero] at y0
     have HVA:=Lib.hid hva
     have OW:=Lib.hid (Kept.ahb hown)
     have acV:=Lib.hid Dw
     have Ya:=Lib.hid hdone
     have Yb:=Lib.hid htodo
     have xU:=Lib.hid hmem
     have acW:=Lib.hid zM
     have hgb:=HS6.out g rfl
     have hsw:=hbel.size
     clear hy hva hown Dw hdone htodo hmem hck zM
     generalize hyy:x.items[k]=y at *
     have Hyy:=Lib.hid hyy
     have acX:=hb0
     clear hyy
     go_upto_region 10 with fail
     clear y0 y1 y2 y3 y4 y5 y6 y7
     generalize xW:wr.alloc _=uP
     have ⟨sF,X⟩:=bH xW
     clear xW
     obtain ⟨B,Z,OW⟩:=b3 B Z OW sF
     have DC:=sF
     clear sF
     have zK:=B.out.e6
     obtain ⟨aI,bI,bQ,bT,bW,dD,bK,bJ⟩:=X.out.c8
     refine wp_region_held_drew (S:=(fun w' => w'.cell? ⟨w.heap.size,6,none⟩=some (.slice (some ⟨g,0,none⟩) x.items.length c6)∧w'.cell? ⟨wr.heap.size,0,none⟩=some (.int .i64 y.kind)∧w'.cell? ⟨wr.heap.size,1,none⟩=some (.bool y.bool)∧w'.cell? ⟨wr.heap.size,2,none⟩=some (.int .i64 y.num)∧w'.cell? ⟨wr.heap.size,3,none⟩=some (.string ⟨y.str.toArray⟩)∧w'.cell? ⟨wr.heap.size,4,none⟩=some (.int .i64 y.id)∧w'.cell? ⟨wr.heap.size,5,none⟩=some (.slice Y1 y.keys.length m1)∧w'.cell? ⟨wr.heap.size,6,none⟩=some (.slice Y2 y.items.length m2)∧w'.cell? ⟨wr.heap.size,7,none⟩=some (.slice Y3 y.rest.length m3))) (by kernel_rfl) ⟨zK,aI,bI,bQ,bT,bW,dD,bK,bJ⟩ (fun hHeld => ?_)
     clear zK aI bI bQ bT bW dD bK bJ
     have qC:Below uP.heap.size uP (uP.drew):=(Below.refl _ _).drew
     obtain ⟨B,Z,X,OW⟩:=b4 B Z X OW qC
     replace DC:=dT DC qC
     clear qC
     generalize uP.drew=E8 at *
     refine tk (i:=0) (v := ?k48) ?_
     simp only [ah]
     refine tk (i:=1) (v := ?k49) ?_
     simp only [ah]
     refine tk (i:=2) (v := ?k50) ?_
     simp only [ah]
     refine tk (i:=3) (v := ?k51) ?_
     simp only [ah]
     refine fH (i:=4) (fun K hK => ?_)
     go_simp
     obtain ⟨z6,zx⟩ : ∃ z,z=(E8).heap.size:=⟨_,rfl⟩
     have hzz:=(DC).size
     rw [← zx] at hzz
     ((with_reducible refine (IH.out y _ _ _ _ xU.out (HVA.out.keep (fun p hp => ((DC).cell (by omega))) (by omega))).mono ?_);rintro e xO ⟨zk,zi,zr,rfl,hz,xX⟩)
     obtain ⟨B,Z,X,OW⟩:=b4 B Z X OW xX
     replace DC:=dT DC xX
     clear xX
     obtain ⟨_,⟨Z1,z1,rfl,_⟩,_⟩:=id hz.keys
     obtain ⟨_,⟨Z2,z2,rfl,_⟩,_⟩:=id hz.items
     obtain ⟨_,Z3,z3,rfl,_⟩:=id hz.rest
     obtain ⟨z7,Dv⟩ : ∃ z,z=(xO).heap.size:=⟨_,rfl⟩
     have HZ:=Lib.hid (su.at_ hz zx Dv)
     clear hz zx Dv
     try clear hHeld
     refine hK.out _ _ (⟨B.out.cell 6,X.out.c8⟩) (fun hHeld => ?_)
     clear hK K
     refine tk (i:=5) (v := ?k54) ?_
     simp only [ah]
     refine fH (i:=6) (fun K hK => ?_)
     have U6:=OW.out.now
     clear OW
     refine FQ rfl 30 _ _ rfl g (k*8) _ rfl rfl (Qx U6 (k*8) 8 (FT hlt)) (by kernel_rfl) (by simp [Value.oneCell']) ?_
     have U7:=Dz (iQ y (.slice Z1 y.keys.length z1) (.slice Z2 y.items.length z2) (.slice Z3 y.rest.length z3)) xs (k*8) _ U6
     change K _ (xO.setCells g (k*8) (iQ y (.slice Z1 y.keys.length z1) (.slice Z2 y.items.length z2) (.slice Z3 y.rest.length z3)))
     have hf7:=fun b h => (DC).block b h
     have hs7:=(DC).size
     have hb7:=DC
     obtain ⟨qE,HEX⟩ : ∃ ww,ww=xO.setCells g (k*8) (iQ y (.slice Z1 y.keys.length z1) (.slice Z2 y.items.length z2) (.slice Z3 y.rest.length z3)):=⟨_,rfl⟩
     rw [← HEX]
     have hkX:∀ k,k≠g→qE.heap[k]?=xO.heap[k]?:=fun k hk => by rw [HEX];exact zH g _ _ _ k hk
     have hbX:Below g xO qE:=by rw [HEX];exact below_setCells (Nat.le_refl _) _ _ _ (Below.refl _ _)
     replace B:=Lib.hid ((hkX (w.heap.size) (by omega)).trans B.out)
     replace B:Hid (Has qE (w.heap.size) 30 #[.int .i64 x.kind,.bool x.bool,.int .i64 x.num,.string ⟨x.str.toArray⟩,.int .i64 x.id,.slice A5 x.keys.length c5,.slice (some ⟨g,0,none⟩) x.items.length c6,.slice A7 x.rest.length c7]):=B
     replace Z:=Lib.hid ((hkX (w.heap.size+1) (by omega)).trans Z.out)
     replace Z:Hid (Has qE (w.heap.size+1) 30 #[.int .i64 0,.bool false,.int .i64 0,.string ⟨#[]⟩,.int .i64 0,.slice none 0 0,.slice none 0 0,.slice none 0 0]):=Z
     replace X:=Lib.hid ((hkX (wr.heap.size) (by omega)).trans X.out)
     replace X:Hid (Has qE (wr.heap.size) 30 #[.int .i64 y.kind,.bool y.bool,.int .i64 y.num,.string ⟨y.str.toArray⟩,.int .i64 y.id,.slice Y1 y.keys.length m1,.slice Y2 y.items.length m2,.slice Y3 y.rest.length m3]):=X
     replace HZ:=Lib.hid (HZ.out.move (fun k hl hb => hkX k (by omega)) hbX.size)
     replace DC:=(DC.mono (show g≤wr.heap.size by omega)).trans hbX
     rw [← HEX] at U7
     try clear hHeld
     refine hK.out _ _ (⟨B.out.cell 6,X.out.c8⟩) (fun hHeld => ?_)
     clear hK K
     refine wpAnyH_done (by kernel_rfl) ?_ _
     try clear hHeld
     have yO:∀ b,b≠g→b < wr.heap.size→qE.heap[b]?=wr.heap[b]?:=fun b h1 h2 => (hkX b h1).trans (hf7 b h2)
     have hsX:wr.heap.size≤qE.heap.size:=Nat.le_trans hs7 hbX.size
     have N9:=acV.out.set k (iQ y (.slice Z1 y.keys.length z1) (.slice Z2 y.items.length z2) (.slice Z3 y.rest.length z3)) hlt rfl
     have hzN:=HZ.out.now
     have hzL:=HZ.out.le
     have hb8:=((hb7.mono (show g≤wr.heap.size by omega)).trans hbX)
     have hC8:Fe w U8 x.items (.slice (some ⟨g,0,none⟩) x.items.length c6) L6 (k+1) qE:=by
      refine ⟨⟨_,_,U7,N9,fun i h1 h2 => ?_,fun i h1 h2 => ?_⟩,fun b h1 h2 => ?_,hbel.trans (hb8.mono (by omega))⟩
      ·
       by_cases e:i=k
       ·
        subst e
        rw [if_pos rfl,Hyy.out]
        obtain ⟨S,hv,hS⟩:=hzN
        exact hv.rd.keep (fun _ _ => rfl) (fun b hb => ⟨by have:=(hS b hb).1;omega,by have:=(hS b hb).2.1;omega,(hS b hb).2.2⟩)
       rw [if_neg e]
       exact (Ya.out i h1 (by omega)).keep (fun p hp => World.cell?_of_block (yO p.block (by have:=hp.1;omega) hp.2.1)) (fun b hb => ⟨hb.1,by have:=hb.2.1;omega,iy.to (yO b (by have:=hb.1;omega) hb.2.1) hb.2.2⟩)
      ·
       rw [if_neg (by omega)]
       exact (Yb.out i h1 (by omega)).keep (fun p hp => World.cell?_of_block (yO p.block (by have:p.block < w.heap.size:=hp;omega) (by have:p.block < w.heap.size:=hp;omega))) (fun _ h => h)
      have hne:b≠g:=fun e => h2 (by rw [e];rfl)
      exact (yO b hne (by omega)).trans (acW.out b h1 h2)
     have acY:=acX.trans (hb8.mono (by omega))
     have HC8:=Lib.hid hC8
     clear hC8 hzN N9 yO U7 U6 hf7 hb7 hkX hbX HEX hb8
     clear X
     clear HZ
     go_wp2_with fail
     go_roundw
     case rel => exact ⟨k+1,by go_num,by omega,HC8.out,B.out,Z.out,acY⟩
     case measure => simp [intOf];omega
    obtain rfl:k=x.items.length:=by omega
    have alG:=hbel.size
    have hI:jv wr (Rng L6 L7 U8.heap.size wr) (.slice A6 x.items.length c6) x.items:=Fe.done ⟨⟨c,xs,hown,Dw,hdone,htodo⟩,zM,hbel⟩ (fun b hb => (HS6.out b hb).2)
    have hR:=(HO7.out.move (w':=wr) (fun q h1 h2 => zM q (by omega) (fun e => by have:=HS6.out q e;omega)) alG)
    have hne:∀ b,Rng L5 L6 wo.heap.size U8 b→wr.heap[b]?=U8.heap[b]?:=fun b hb => zM b (by have:=hb.1;omega) (fun e => by have:=HS6.out b e;have:=hb.1;omega)
    have hK:jv wr (fun b => w.heap.size+2≤b∧b < wr.heap.size∧iy wr b) (.slice A5 x.keys.length c5) x.keys:=HCd.out.keep (fun p hp => World.cell?_of_block (hne _ hp)) (fun b hb => ⟨by have:=hb.1;omega,by have:=hb.1;omega,iy.to (hne _ hb) hb.2⟩)
    replace B:=B.out
    replace Z:=Z.out
    replace B:=Lib.hid B
    replace Z:=Lib.hid Z
    have KI:=Lib.hid (Kept.vals (L:=w.heap.size+2) (B:=wr.heap.size) hI (fun b hb => ⟨by have:=hb.1;omega,by have:=hb.1;omega,hb.2⟩) (Nat.le_refl _))
    have KK:=Lib.hid (Kept.vals (L:=w.heap.size+2) (B:=wr.heap.size) hK (fun b hb => hb) (Nat.le_refl _))
    have KR:=Lib.hid (hR)
    clear hI hK hR hne hown Dw hdone htodo zM hbel
    obtain ⟨acZ,ac0,ac1,ac2,ac3,zJ,zK,I8⟩:=B.out.c8
    go_wp2_with (refine sR Z.out ?_)
    clear acZ ac0 ac1 ac2 ac3 zJ zK I8
    generalize tK:wr.setRow _ _=Bq
    obtain ⟨B,KI,KK,KR⟩:=f4 B KI KK KR (eR tK)
    replace Z:=aK Z tK
    replace hb0:=tr hb0 tK
    clear tK
    have hle:=KK.out.le
    exact bodyPost_ret (v:=iC x (.slice A5 x.keys.length c5) (.slice A6 x.items.length c6) (.slice A7 x.rest.length c7)) (by simp [results,Tryz.results137,go_sem,Z.out.c8]) rfl (⟨_,_,_,rfl,⟨HV.out.ints,HV.out.yP,HV.out.I7,HV.out.PS,Qv KK.out.now (by omega) hle,Qv KI.out.now (by omega) hle,U4 KR.out.now (by decide) (by omega)⟩,hb0⟩)
end Go.Proofs.YthkfapcadhnaeaaGreatDoor
