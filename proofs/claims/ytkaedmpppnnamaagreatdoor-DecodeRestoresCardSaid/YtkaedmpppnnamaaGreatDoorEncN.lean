/- Error and Encode of sheaveref09. No condition. -/
import Derived.Test.YtkaedmpppnnamaaGreatDoorJAP
import Derived.Test.YtkaedmpppnnamaaGreatDoorJAB
import Derived.Test.YtkaedmpppnnamaaGreatDoorJAE
set_option maxHeartbeats 800000
set_option maxRecDepth 100000
namespace Go.Proofs.YtkaedmpppnnamaaGreatDoor
open ChangeShapes WideShapes ChangeAt RowKit
def zu (ts:List ay) (t:Int) (v:Val):Int:=if fF ts≠0 then fF ts else if (bM ts t).isNone then 4 else if cO ts false v t then 0 else 1
def Je (ts:List ay) (t:Int) (v:Val):List UInt8 × Int:=if zu ts t v≠0 then ([],zu ts t v) else if 4096 < (fE ts v t).length then ([],3) else if 200 < jV ts v t then ([],3) else (fE ts v t,0)
theorem Vj {ts:List ay} {t:Int} {v:Val} (h:zu ts t v=0):fF ts=0/\cO ts false v t=true:=by
 unfold zu at h;by_cases h1:fF ts≠0
 . rw [o_ h1] at h;exact absurd h h1
 rw [gB h1] at h;by_cases h2:(bM ts t).isNone=true
 . rw [o_ h2] at h;cases h
 rw [gB h2] at h;refine ⟨by simpa using h1,?_⟩;cases hf:cO ts false v t with
 | true => rfl
 | false => rw [hf] at h;simp at h
theorem aax {ts:List ay} {t:Int} (h1:¬ (bM ts t).isSome=true):t < 0\/(ts.length:Int)<=t:=by
 unfold bM at h1;by_cases h3:0<=t
 .
  rw [o_ h3] at h1;have:ts.length<=t.toNat:=by simpa using h1
  omega
 omega
theorem ae5 {ts:List ay} (h:fF ts=0):Kinds ts:=fun x hx => (IJ h x hx).1
theorem zEg {p:Prop} (h:p:=by
 go_wp2_with fail;go_ret;exact ⟨bC (by rw [HR.out]),hw3⟩):p:=h
theorem zHa {p:Prop} (h:p:=by
 rw [hf] at HR;clear hf HF2;go_wp2_with fail;go_ret;exact ⟨bC (by rw [HR.out];rfl),hw3⟩):p:=h
theorem acY (ts:List ay) (A:Option Addr) (c:Nat) (t:Int) (v:Val) (vk vi vr:Value) (w:World) (hs:Sizes ts) (hT:aU w w.heap.size (.slice A ts.length c) ts) (hv:ValAt w w.heap.size v vk vi vr) :
  Calls Tryz.prog 24 #[.agg #[.slice A ts.length c],.int .i64 t,aS v vk vi vr] w fun e w' => e = .returned (.int .i64 (zu ts t v))/\Below w.heap.size w w':=by
 obtain ⟨A1,n1,A2,n2,A3,n3,rfl,rfl,rfl,-,-,-⟩:=hv.forms;have HVa:=hiQ (fun W h => aaw ts A c W hs h);have HFi:=hiQ (fun hk W h1 h2 => acO v ts A c t (.slice A1 v.keys.length n1) (.slice A2 v.items.length n2) (.slice A3 v.rest.length n3) W hk h1 h2);have HT:=hiQ hT;have HV:=hiQ hv;simp only [aS] at HFi ⊢;clear hT hs hv;go_enter Tryz.func24,Tryz.ntmps24
 go_upto_region 1 with fail;refine jg (fun wd2 hb1 S I => ?_);have hw3:=hb1;clear hb1;have aH:=S.out.e0;go_wp2_with fail;clear aH;((with_reducible refine (HVa.out _ (HT.out.on hw3)).mono ?_);rintro e wd4 ⟨rfl,hb5⟩);obtain ⟨S,I⟩:=b2 S I hb5;replace hw3:=dT hw3 hb5;clear hb5 HVa;have aH:=S.out.e0;by_cases h0:fF ts=0
 .
  by_cases h1:(bM ts t).isSome=true
  .
   have HR:Hid (zu ts t v=if cO ts false v t then 0 else 1):=by show _=_;unfold zu;rw [gB (by simp [h0]),gB (by cases hq:bM ts t <;> simp_all)]
   have HF2:=hiQ (HFi.out (ae5 h0));obtain ⟨n,rfl,hn,hx⟩:=Ej h1;rw [h0];clear h0 h1 hx HFi;have hni:¬ ((ts.length:Int)<=n):=by omega
   have hn0:¬ ((n:Int) < 0):=by omega
   obtain ⟨iF,iG,iH,iI,bT,gU,dH,bV⟩:=I.out.c8;go_wp2_with fail;clear aH iF iG iH iI bT gU dH bV;((with_reducible refine (HF2.out _ (HT.out.on hw3) (HV.out.on hw3)).mono ?_);rintro e wL ⟨rfl,hb7⟩);obtain ⟨S,I⟩:=b2 S I hb7;replace hw3:=dT hw3 hb7;clear hb7;cases hf:cO ts false v n with
   | true =>
    exact zHa
   | false =>
    exact zHa
  have HR:Hid (zu ts t v=4):=by show _=_;unfold zu;rw [gB (by simp [h0]),o_ (by cases hq:bM ts t <;> simp_all)]
  have h2:=aax h1;rw [h0];clear h0 h1 HFi;by_cases h3:t < 0
  .
   clear h2;exact zEg
  have h4:(ts.length:Int)<=t:=by omega
  clear h2;exact zEg
 have HR:Hid (zu ts t v=fF ts):=by show _=_;unfold zu;rw [o_ h0]
 have hb:(fF ts == 0)=false:=by simpa using h0
 clear h0 HFi;generalize fF ts=z at *;exact zEg
theorem ae6 {ts:List ay} {t:Int} {v:Val} (h:zu ts t v≠0):Je ts t v=([],zu ts t v):=by unfold Je;rw [o_ h]
theorem zFv {p:Prop} (h:p:=by
 go_wp2_with fail;go_ret2;exact ⟨by rw [HE.out];rfl,hw3⟩):p:=h
theorem XV (ts:List ay) (A:Option Addr) (c:Nat) (t:Int) (v:Val) (vk vi vr:Value) (w:World) (hs:Sizes ts) (hn:nodes v<=1000000000000) (hz:cO ts false v t=true->(fE ts v t).length<=140737488355328) (hT:aU w w.heap.size (.slice A ts.length c) ts) (hv:ValAt w w.heap.size v vk vi vr) :
  Calls Tryz.prog 8 #[.agg #[.slice A ts.length c],.int .i64 t,aS v vk vi vr] w fun e w' => e = .returned (.tuple #[.string ⟨(Je ts t v).1.toArray⟩,.int .i64 (Je ts t v).2])/\Below w.heap.size w w':=by
 obtain ⟨A1,n1,A2,n2,A3,n3,rfl,rfl,rfl,-,-,-⟩:=hv.forms;have HEr:=hiQ (fun W h1 h2 => acY ts A c t v (.slice A1 v.keys.length n1) (.slice A2 v.items.length n2) (.slice A3 v.rest.length n3) W hs h1 h2);have HPy:=hiQ (fun hval hf W h1 h2 => Vr ts A c hval (nodes v) v t (.slice A1 v.keys.length n1) (.slice A2 v.items.length n2) (.slice A3 v.rest.length n3) W (b_ _) hf (hz hf) h1 h2);have HLv:=hiQ (fun hval hf W h1 h2 => ahc ts A c hval (nodes v) v t (.slice A1 v.keys.length n1) (.slice A2 v.items.length n2) (.slice A3 v.rest.length n3) W (b_ _) hn hf h1 h2);have HT:=hiQ hT;have HV:=hiQ hv;simp only [aS] at HEr HPy HLv ⊢;have HZ:=hiQ hz;clear hT hs hv hz hn;go_enter Tryz.func8,Tryz.ntmps8
 go_upto_region 1 with fail;refine jg (fun wd2 hb1 S I => ?_);have hw3:=hb1;clear hb1;have aH:=S.out.e0;obtain ⟨iF,iG,iH,iI,bT,gU,dH,bV⟩:=I.out.c8;go_wp2_with fail;clear aH iF iG iH iI bT gU dH bV;((with_reducible refine (HEr.out _ (HT.out.on hw3) (HV.out.on hw3)).mono ?_);rintro e wd4 ⟨rfl,hb5⟩);obtain ⟨S,I⟩:=b2 S I hb5;replace hw3:=dT hw3 hb5;clear hb5 HEr;by_cases he:zu ts t v=0
 .
  obtain ⟨hval,hf⟩:=Vj he;have HP2:=hiQ (HPy.out hval hf);have HL2:=hiQ (HLv.out hval hf);have hz2:=HZ.out hf;have hen:Je ts t v=if 4096 < (fE ts v t).length then ([],3) else if 200 < jV ts v t then ([],3) else (fE ts v t,0):=by unfold Je;rw [gB (by simp [he])]
  rw [he];clear HPy HLv HZ hval hf he;generalize fE ts v t=p at *;generalize jV ts v t=lv at *;have aH:=S.out.e0;obtain ⟨iF,iG,iH,iI,bT,gU,dH,bV⟩:=I.out.c8;go_wp2_with fail;clear aH iF iG iH iI bT gU dH bV;((with_reducible refine (HP2.out _ (HV.out.on hw3) (HT.out.on hw3)).mono ?_);rintro e wL ⟨rfl,hb7⟩);obtain ⟨S,I⟩:=b2 S I hb7;replace hw3:=dT hw3 hb7;clear hb7 HP2;by_cases h4:4096 < p.length
  .
   rw [o_ h4] at hen;have HE:=hiQ hen;have h4i:(4096:Int) < p.length:=by omega
   clear hen h4;exact zFv
  rw [gB h4] at hen;have h4i:¬ (4096:Int) < p.length:=by omega
  have aH:=S.out.e0;obtain ⟨iF,iG,iH,iI,bT,gU,dH,bV⟩:=I.out.c8;go_wp2_with fail;clear aH iF iG iH iI bT gU dH bV;((with_reducible refine (HL2.out _ (HV.out.on hw3) (HT.out.on hw3)).mono ?_);rintro e qP ⟨rfl,zU⟩);obtain ⟨S,I⟩:=b2 S I zU;replace hw3:=dT hw3 zU;clear zU HL2;by_cases h5:200 < lv
  .
   rw [o_ h5] at hen;have HE:=hiQ hen;have h5i:(200:Int) < lv:=by omega
   clear hen h5;exact zFv
  rw [gB h5] at hen;have HE:=hiQ hen;have h5i:¬ (200:Int) < lv:=by omega
  clear hen h5;exact zFv
 have HE:=hiQ (ae6 he);have hb:(zu ts t v == 0)=false:=by simpa using he
 clear he HPy HLv HZ;generalize zu ts t v=z at *;exact zFv
