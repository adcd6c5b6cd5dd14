/- Part of the proof. -/
import Derived.Shelf.Strings.Repeat
import Derived.Shelf.Strings.Trim
import Derived.Shelf.Strconv.Itoa1
import Derived.Shelf.Strconv.Itoa2
import Derived.Lib.AppendIntMem
import Derived.Deep.WholeRow
import Derived.Test.YtbhnjkegkadodaaGreatDoorG26
set_option linter.all false
set_option maxRecDepth 100000
set_option maxHeartbeats 8000000
namespace Go.Proofs
open Go.Shelf
def Tryz.lays162_ren:Go.Shelf.Ren:=⟨fun|162=>94|232=>152|227=>153|234=>154|236=>155|228=>220|271=>221|151=>222|120=>260|197=>261|152=>262|260=>279|137=>280|119=>281|224=>282|225=>283|217=>295|266=>296|n=>n,fun|9=>9|4=>4|3=>3|5=>5|117=>234|116=>233|0=>0|124=>237|21=>21|105=>314|46=>168|119=>376|139=>379|138=>378|n=>n,fun|3=>4|4=>5|n=>n⟩
theorem Tryz.lays162:Go.Proofs.Lays.n162 Tryz.prog Tryz.lays162_ren:={
 mixed:=by kernel_rfl
 f119:=Tryz.func281.trans (congrArg some (by kernel_rfl))
 f120:=Tryz.func260.trans (congrArg some (by kernel_rfl))
 f137:=Tryz.func280.trans (congrArg some (by kernel_rfl))
 f151:=Tryz.func222.trans (congrArg some (by kernel_rfl))
 f152:=Tryz.func262.trans (congrArg some (by kernel_rfl))
 f162:=Tryz.func94.trans (congrArg some (by kernel_rfl))
 f197:=Tryz.func261.trans (congrArg some (by kernel_rfl))
 f217:=Tryz.func295.trans (congrArg some (by kernel_rfl))
 f224:=Tryz.func282.trans (congrArg some (by kernel_rfl))
 f225:=Tryz.func283.trans (congrArg some (by kernel_rfl))
 f227:=Tryz.func153.trans (congrArg some (by kernel_rfl))
 f228:=Tryz.func220.trans (congrArg some (by kernel_rfl))
 f232:=Tryz.func152.trans (congrArg some (by kernel_rfl))
 f234:=Tryz.func154.trans (congrArg some (by kernel_rfl))
 f236:=Tryz.func155.trans (congrArg some (by kernel_rfl))
 f260:=Tryz.func279.trans (congrArg some (by kernel_rfl))
 f266:=Tryz.func296.trans (congrArg some (by kernel_rfl))
 f271:=Tryz.func221.trans (congrArg some (by kernel_rfl))
 t0:=Tryz.underlying0
 a0:=Tryz.isAgg0
 z0:=Tryz.sizeOf0
 v0:=Tryz.zeroValue0
 t3:=Tryz.underlying3
 a3:=Tryz.isAgg3
 z3:=Tryz.sizeOf3
 v3:=Tryz.zeroValue3
 t4:=Tryz.underlying4
 a4:=Tryz.isAgg4
 z4:=Tryz.sizeOf4
 v4:=Tryz.zeroValue4
 t5:=Tryz.underlying5
 a5:=Tryz.isAgg5
 z5:=Tryz.sizeOf5
 v5:=Tryz.zeroValue5
 t9:=Tryz.underlying9
 a9:=Tryz.isAgg9
 z9:=Tryz.sizeOf9
 v9:=Tryz.zeroValue9
 t21:=Tryz.underlying21
 a21:=Tryz.isAgg21
 z21:=Tryz.sizeOf21
 v21:=Tryz.zeroValue21
 t46:=Tryz.underlying168
 a46:=Tryz.isAgg168
 z46:=Tryz.sizeOf168
 v46:=Tryz.zeroValue168
 t105:=Tryz.underlying314
 a105:=Tryz.isAgg314
 z105:=Tryz.sizeOf314
 v105:=Tryz.zeroValue314
 t116:=Tryz.underlying233
 a116:=Tryz.isAgg233
 z116:=Tryz.sizeOf233
 t117:=Tryz.underlying234
 a117:=Tryz.isAgg234
 z117:=Tryz.sizeOf234
 v117:=Tryz.zeroValue234
 t119:=Tryz.underlying376
 a119:=Tryz.isAgg376
 z119:=Tryz.sizeOf376
 t124:=Tryz.underlying237
 a124:=Tryz.isAgg237
 z124:=Tryz.sizeOf237
 v124:=Tryz.zeroValue237
 t138:=Tryz.underlying378
 a138:=Tryz.isAgg378
 z138:=Tryz.sizeOf378
 v138:=Tryz.zeroValue378
 t139:=Tryz.underlying379
 a139:=Tryz.isAgg379
 z139:=Tryz.sizeOf379
 v139:=Tryz.zeroValue379
 g3:=by kernel_rfl
 g4:=by kernel_rfl }
open Go.RowKit in
theorem Tryz.strings_TrimRight_one (s:ByteArray) (c:UInt8) (hc:c.toNat<128) (w:World) (hs:s.size<=9223372036854775807):
 Calls Tryz.prog 94 #[.string s,.string ⟨#[c]⟩] w fun e w'=>e=.returned (.string ⟨(Lib.trimRightB s.data.toList c).toArray⟩)/\w'=w:=Any.strings_TrimRight_one Tryz.lays162 s c hc w hs
def Tryz.lays283_ren:Go.Shelf.Ren:=⟨fun|283=>252|n=>n,fun|3=>3|9=>9|4=>4|n=>n,fun|n=>n⟩
theorem Tryz.lays283:Go.Proofs.Lays.n283 Tryz.prog Tryz.lays283_ren:={
 mixed:=by kernel_rfl
 f283:=Tryz.func252.trans (congrArg some (by kernel_rfl))
 t3:=Tryz.underlying3
 a3:=Tryz.isAgg3
 z3:=Tryz.sizeOf3
 v3:=Tryz.zeroValue3
 t4:=Tryz.underlying4
 a4:=Tryz.isAgg4
 z4:=Tryz.sizeOf4
 v4:=Tryz.zeroValue4
 t9:=Tryz.underlying9
 a9:=Tryz.isAgg9
 z9:=Tryz.sizeOf9
 v9:=Tryz.zeroValue9 }
open Go.Lib in
theorem Tryz.internal_strconv_small (i:Nat) (h:i<100) (w:World):
 Calls Tryz.prog 252 #[.int .i64 i] w fun e w'=>e=.returned (.string ⟨(Lib.decDigits i).toArray⟩)/\w'=w:=Any.internal_strconv_small Tryz.lays283 i h w
def Tryz.laysM284_ren:Go.Shelf.Ren:=⟨fun|284=>253|129=>131|317=>273|318=>274|n=>n,fun|53=>22|3=>3|212=>359|0=>0|4=>4|46=>168|5=>5|9=>9|n=>n,fun|17=>3|n=>n⟩
theorem Tryz.laysM284:Go.Proofs.LaysM.n284 Tryz.prog Tryz.laysM284_ren:={
 mixed:=by kernel_rfl
 f129:=Tryz.func131.trans (congrArg some (by kernel_rfl))
 f284:=Tryz.func253.trans (congrArg some (by kernel_rfl))
 f317:=Tryz.func273.trans (congrArg some (by kernel_rfl))
 f318:=Tryz.func274.trans (congrArg some (by kernel_rfl))
 t0:=Tryz.underlying0
 a0:=Tryz.isAgg0
 z0:=Tryz.sizeOf0
 v0:=Tryz.zeroValue0
 t3:=Tryz.underlying3
 a3:=Tryz.isAgg3
 z3:=Tryz.sizeOf3
 v3:=Tryz.zeroValue3
 t4:=Tryz.underlying4
 a4:=Tryz.isAgg4
 z4:=Tryz.sizeOf4
 v4:=Tryz.zeroValue4
 t5:=Tryz.underlying5
 a5:=Tryz.isAgg5
 z5:=Tryz.sizeOf5
 v5:=Tryz.zeroValue5
 t9:=Tryz.underlying9
 a9:=Tryz.isAgg9
 z9:=Tryz.sizeOf9
 v9:=Tryz.zeroValue9
 t46:=Tryz.underlying168
 a46:=Tryz.isAgg168
 z46:=Tryz.sizeOf168
 v46:=Tryz.zeroValue168
 t53:=Tryz.underlying22
 a53:=Tryz.isAgg22
 z53:=Tryz.sizeOf22
 v53:=Tryz.zeroValue22
 t212:=Tryz.underlying359
 a212:=Tryz.isAgg359
 z212:=Tryz.sizeOf359
 v212:=Tryz.zeroValue359
 g17:=by kernel_rfl
 i0:=by kernel_rfl
 i3:=by kernel_rfl
 i4:=by kernel_rfl
 i5:=by kernel_rfl
 i9:=by kernel_rfl
 i46:=by kernel_rfl
 i53:=by kernel_rfl
 i212:=by kernel_rfl
 m17:=by kernel_rfl }
open Go.Lib in
theorem Tryz.internal_strconv_numDigits (u:Nat) (h1:1<=u) (h2:u<18446744073709551616) (w:World) (htab:Lib.TabIs Tryz.prog w "internal/strconv.uint64pow10" .u64 Lib.pow10Tab):
 Calls Tryz.prog 253 #[.int .u64 u] w fun e w'=>e=.returned (.int .i64 (Lib.nDigits u))/\w'=w:=Any.internal_strconv_numDigits Tryz.laysM284 u h1 h2 w htab
def Tryz.lays285_ren:Go.Shelf.Ren:=⟨fun|285=>254|n=>n,fun|37=>113|53=>22|3=>3|4=>4|51=>346|9=>9|5=>5|0=>0|n=>n,fun|n=>n⟩
theorem Tryz.lays285:Go.Proofs.Lays.n285 Tryz.prog Tryz.lays285_ren:={
 mixed:=by kernel_rfl
 f285:=Tryz.func254.trans (congrArg some (by kernel_rfl))
 t0:=Tryz.underlying0
 a0:=Tryz.isAgg0
 z0:=Tryz.sizeOf0
 v0:=Tryz.zeroValue0
 t3:=Tryz.underlying3
 a3:=Tryz.isAgg3
 z3:=Tryz.sizeOf3
 v3:=Tryz.zeroValue3
 t4:=Tryz.underlying4
 a4:=Tryz.isAgg4
 z4:=Tryz.sizeOf4
 v4:=Tryz.zeroValue4
 t5:=Tryz.underlying5
 a5:=Tryz.isAgg5
 z5:=Tryz.sizeOf5
 v5:=Tryz.zeroValue5
 t9:=Tryz.underlying9
 a9:=Tryz.isAgg9
 z9:=Tryz.sizeOf9
 v9:=Tryz.zeroValue9
 t37:=Tryz.underlying113
 a37:=Tryz.isAgg113
 z37:=Tryz.sizeOf113
 v37:=Tryz.zeroValue113
 t51:=Tryz.underlying346
 a51:=Tryz.isAgg346
 z51:=Tryz.sizeOf346
 v51:=Tryz.zeroValue346
 t53:=Tryz.underlying22
 a53:=Tryz.isAgg22
 z53:=Tryz.sizeOf22
 v53:=Tryz.zeroValue22 }
open Go.RowKit Go.Sort Go.Lib in
theorem Tryz.internal_strconv_formatBase10 (blk off cap:Nat) (u:Nat) (d:Array UInt8) (w:World) (hH:Holds (fun(b:UInt8)=>Value.int .u8 (b.toNat:Int)) w blk off d) (hu:u<10 ^ d.size) (hu64:u<18446744073709551616) (hsz:d.size<4611686018427387904):
 Calls Tryz.prog 254 #[.slice (some ⟨blk,off,none⟩) d.size cap,.int .u64 u] w fun e w'=>
  e=.returned (.tuple #[])/\∃(n v':Nat) (dk:Array UInt8),w'=(putRow (fun(b:UInt8)=>Value.int .u8 (b.toNat:Int)) w blk off dk).drewN n/\FmtInv d.size u 0 v' dk:=Any.internal_strconv_formatBase10 Tryz.lays285 blk off cap u d w hH hu hu64 hsz
def Tryz.lays105_ren:Go.Shelf.Ren:=⟨fun|105=>150|212=>214|99=>215|165=>216|166=>217|170=>218|169=>219|263=>256|264=>83|206=>257|240=>258|241=>259|276=>277|277=>278|n=>n,fun|9=>9|3=>3|4=>4|20=>20|0=>0|46=>168|109=>301|5=>5|72=>306|76=>310|51=>346|146=>347|53=>22|148=>151|70=>304|37=>113|75=>309|127=>349|164=>362|80=>312|n=>n,fun|n=>n⟩
theorem Tryz.lays105:Go.Proofs.Lays.n105 Tryz.prog Tryz.lays105_ren:={
 mixed:=by kernel_rfl
 f99:=Tryz.func215.trans (congrArg some (by kernel_rfl))
 f105:=Tryz.func150.trans (congrArg some (by kernel_rfl))
 f165:=Tryz.func216.trans (congrArg some (by kernel_rfl))
 f166:=Tryz.func217.trans (congrArg some (by kernel_rfl))
 f169:=Tryz.func219.trans (congrArg some (by kernel_rfl))
 f170:=Tryz.func218.trans (congrArg some (by kernel_rfl))
 f206:=Tryz.func257.trans (congrArg some (by kernel_rfl))
 f212:=Tryz.func214.trans (congrArg some (by kernel_rfl))
 f240:=Tryz.func258.trans (congrArg some (by kernel_rfl))
 f241:=Tryz.func259.trans (congrArg some (by kernel_rfl))
 f263:=Tryz.func256.trans (congrArg some (by kernel_rfl))
 f264:=Tryz.func83.trans (congrArg some (by kernel_rfl))
 f276:=Tryz.func277.trans (congrArg some (by kernel_rfl))
 f277:=Tryz.func278.trans (congrArg some (by kernel_rfl))
 t0:=Tryz.underlying0
 a0:=Tryz.isAgg0
 z0:=Tryz.sizeOf0
 v0:=Tryz.zeroValue0
 t3:=Tryz.underlying3
 a3:=Tryz.isAgg3
 z3:=Tryz.sizeOf3
 v3:=Tryz.zeroValue3
 t4:=Tryz.underlying4
 a4:=Tryz.isAgg4
 z4:=Tryz.sizeOf4
 v4:=Tryz.zeroValue4
 t5:=Tryz.underlying5
 a5:=Tryz.isAgg5
 z5:=Tryz.sizeOf5
 v5:=Tryz.zeroValue5
 t9:=Tryz.underlying9
 a9:=Tryz.isAgg9
 z9:=Tryz.sizeOf9
 v9:=Tryz.zeroValue9
 t20:=Tryz.underlying20
 a20:=Tryz.isAgg20
 z20:=Tryz.sizeOf20
 v20:=Tryz.zeroValue20
 t37:=Tryz.underlying113
 a37:=Tryz.isAgg113
 z37:=Tryz.sizeOf113
 v37:=Tryz.zeroValue113
 t46:=Tryz.underlying168
 a46:=Tryz.isAgg168
 z46:=Tryz.sizeOf168
 v46:=Tryz.zeroValue168
 t51:=Tryz.underlying346
 a51:=Tryz.isAgg346
 z51:=Tryz.sizeOf346
 v51:=Tryz.zeroValue346
 t53:=Tryz.underlying22
 a53:=Tryz.isAgg22
 z53:=Tryz.sizeOf22
 v53:=Tryz.zeroValue22
 t70:=Tryz.underlying304
 a70:=Tryz.isAgg304
 z70:=Tryz.sizeOf304
 v70:=Tryz.zeroValue304
 t72:=Tryz.underlying306
 a72:=Tryz.isAgg306
 z72:=Tryz.sizeOf306
 v72:=Tryz.zeroValue306
 t75:=Tryz.underlying309
 a75:=Tryz.isAgg309
 z75:=Tryz.sizeOf309
 v75:=Tryz.zeroValue309
 t76:=Tryz.underlying310
 a76:=Tryz.isAgg310
 z76:=Tryz.sizeOf310
 v76:=Tryz.zeroValue310
 t109:=Tryz.underlying301
 a109:=Tryz.isAgg301
 z109:=Tryz.sizeOf301
 v109:=Tryz.zeroValue301
 t127:=Tryz.underlying349
 a127:=Tryz.isAgg349
 z127:=Tryz.sizeOf349
 v127:=Tryz.zeroValue349
 t146:=Tryz.underlying347
 a146:=Tryz.isAgg347
 z146:=Tryz.sizeOf347
 v146:=Tryz.zeroValue347
 t148:=Tryz.underlying151
 a148:=Tryz.isAgg151
 z148:=Tryz.sizeOf151
 v148:=Tryz.zeroValue151
 t164:=Tryz.underlying362
 a164:=Tryz.isAgg362
 z164:=Tryz.sizeOf362
 v164:=Tryz.zeroValue362 }
theorem Tryz.Builder_Extra_105:Builder.Extra Tryz.prog Tryz.lays105_ren:={
 sizeBuilder:=by kernel_rfl
 liesBuilder:=by kernel_rfl
 t5:=Tryz.underlying5
 a5:=Tryz.isAgg5
 z5:=Tryz.sizeOf5
 v5:=Tryz.zeroValue5
 infoByte:=by kernel_rfl
 cellsByte:=by kernel_rfl
 sizeByte:=by kernel_rfl
 neB5:=by decide }
open Go.RowKit Go.Lib in
theorem Tryz.strings_Repeat (s:ByteArray) (c:Nat) (w:World) (hc:c<=9223372036854775807) (hlen:s.size*c<=140737488355328):
 Calls Tryz.prog 150 #[.string s,.int .i64 c] w fun e w'=>e=.returned (.string ⟨(Lib.repeatL s.data.toList c).toArray⟩)/\Below w.heap.size w w':=Any.strings_Repeat Tryz.lays105 Tryz.Builder_Extra_105 s c w hc hlen
end Go.Proofs
namespace Gz
open Go Go.RowKit Go.Proofs Gl Go.Sort
theorem new_grow (w:World) (k:Nat) (os:Array Obj):New w (grow (w.drewN k) os):=
 ⟨rfl,rfl,rfl,by show _<=(w.heap ++ os).size;simp,fun c hc _=>heap_grow_old (w.drewN k) os hc⟩
theorem fin0 (w:World) (o:Obj) (dk:Array UInt8) (k:Nat):New w ((putRow (fun(b:UInt8)=>Value.int .u8 (b.toNat:Int)) (w.alloc o) w.heap.size 0 dk).drewN k):=by
 rw[alloc_eq_grow];obtain⟨a1,_,e⟩:=putRow_grow_new (fun(b:UInt8)=>Value.int .u8 (b.toNat:Int)) w #[o] w.heap.size 0 dk (zR _);rw[e];exact new_grow w k a1
theorem fmt_c {w:World} (u:Nat) (hu1:100<=u) (hu64:u<18446744073709551616) (htab:Lib.TabIs Tryz.prog w "internal/strconv.uint64pow10" .u64 Lib.pow10Tab):
 Calls Tryz.prog 213 #[.int .u64 (u:Int),.int .i64 10] w fun e w'=>e=.returned (.string ⟨(Lib.decDigits u).toArray⟩)/\New w w':=by
 have a5:Lib.nDigits u<=20:=by have:=Lib.numDigits_eq u (by omega) hu64;split at this<;>omega
 have a3:Tryz.prog.arrayLen 342=24:=by kernel_rfl
 have a8:∀W,(Instr.sliceAt 342 (.pointer (some ⟨w.heap.size,0,none⟩)) none (some (.int .i64 (Lib.nDigits u:Int))) none).run Tryz.prog W=.ok (.slice (some ⟨w.heap.size,0,none⟩) (Lib.nDigits u) 24) W:=fun W=>by
  rw[run_sliceAt_array_h (P:=Tryz.prog) (w:=W) (t:=342) (a:=⟨w.heap.size,0,none⟩) Tryz.underlying342 .i64 (Lib.nDigits u:Int) (by omega) (by rw[a3];omega)];go_simp
 have a2:=Lib.holds_zero0 w 342 (Lib.nDigits u) (by omega);have a1:=Tryz.internal_strconv_formatBase10 w.heap.size 0 24 u (Array.replicate (Lib.nDigits u) 0) (w.alloc (.cells Lib.zeros24 342)) a2 (by rw[Array.size_replicate];exact Lib.lt_pow_nDigits u) hu64 (by rw[Array.size_replicate];omega);rw[Array.size_replicate]at a1;have a6:=zqH a2;clear a2 a3;go_enter Tryz.func213,Tryz.ntmps213
 go_wp2_with (first
  | (go_at_call 253;refine(Tryz.internal_strconv_numDigits u (by omega) hu64 _ (Lib.tabIs_alloc htab _)).mono ?_;rintro e w' ⟨rfl,rfl⟩))
 go_at_call 254
 refine a1.mono ?_
 rintro e w' ⟨rfl,k,v',dk,rfl,hF⟩;have a9:(convert 113 9 (.slice (some ⟨w.heap.size,0,none⟩) (Lib.nDigits u) 24)).run Tryz.prog ((putRow (fun(b:UInt8)=>Value.int .u8 (b.toNat:Int)) (w.alloc (.cells Lib.zeros24 342)) w.heap.size 0 dk).drewN k)=.ok (.string ⟨(Lib.decDigits u).toArray⟩) ((putRow (fun(b:UInt8)=>Value.int .u8 (b.toNat:Int)) (w.alloc (.cells Lib.zeros24 342)) w.heap.size 0 dk).drewN k):=by
  have h:=run_convert_bytes_back (P:=Tryz.prog) ((putRow (fun(b:UInt8)=>Value.int .u8 (b.toNat:Int)) (w.alloc (.cells Lib.zeros24 342)) w.heap.size 0 dk).drewN k) 113 9 5 ⟨w.heap.size,0,none⟩ 24 (Lib.decDigits u) Tryz.underlying113 Tryz.underlying5 Tryz.underlying9 (fun j hj=>by
   rw[Lib.row_is_numeral hF j hj,Lib.add_plain,World.cell?_drewN];exact cell?_putRow (fun(b:UInt8)=>Value.int .u8 (b.toNat:Int)) _ w.heap.size 0 _ dk a6.out (by rw[hF.size,Array.size_replicate]) j (by rw[hF.size];rw[Lib.decDigits_length]at hj;exact hj))
  rw[Lib.decDigits_length]at h;exact h
 go_wp2
 go_ret
 exact⟨rfl,fin0 _ _ _ _⟩
theorem fmt_small {w:World} (u:Nat) (hu:u<100):
 Calls Tryz.prog 213 #[.int .u64 (u:Int),.int .i64 10] w fun e w'=>e=.returned (.string ⟨(Lib.decDigits u).toArray⟩)/\w'=w:=by
 go_enter Tryz.func213,Tryz.ntmps213
 go_wp2_with (go_at_call 252;refine(Tryz.internal_strconv_small u hu _).mono ?_;rintro e w' ⟨rfl,rfl⟩)
 go_ret
 exact⟨rfl,rfl⟩
theorem fmtu_c {w:World} (u:Nat) (hu64:u<18446744073709551616) (htab:Laid3 w):
 Calls Tryz.prog 149 #[.int .u64 (u:Int),.int .i64 10] w fun e w'=>e=.returned (.string ⟨(Lib.decDigits u).toArray⟩)/\New w w':=by
 have H:Calls Tryz.prog 213 #[.int .u64 (u:Int),.int .i64 10] w fun e w'=>e=.returned (.string ⟨(Lib.decDigits u).toArray⟩)/\New w w':=by
  rcases Nat.lt_or_ge u 100 with h|h
  · exact(fmt_small u h).mono fun e w' h=>⟨h.1,h.2▸Upd.refl _ _⟩
  · exact fmt_c u h hu64 htab.tab
 have H1:=zqH H;clear H;go_enter Tryz.func149,Tryz.ntmps149
 go_wp2_with (go_at_call 213;refine H1.out.mono ?_;rintro e w' ⟨rfl,hn⟩)
 go_ret
 exact⟨rfl,hn⟩
end Gz
namespace Gz
open Go Go.RowKit Go.Proofs Gl Go.Shelf
theorem nnorm_c {Q:Nat->Prop} {w:World} {A:Option Addr} {n c x:Nat} (h:LQ Q w A n c x) (hb:x<Gn.B ^ 1000):Calls Tryz.prog 147 #[.slice A n c] w fun e w'=>∃R m d l,e=.returned (.slice R m d)/\Gn.NatV 22 w' R m d l/\Gn.Norm l/\Gn.val l=x/\LN (NB w) w' R m d x/\New w w':=by
 obtain⟨l0,h1,rfl⟩:=h.nat;refine(Norm_c h1 (by have:=h.few;omega)).mono ?_
 rintro e w' ⟨R,d,rfl,ho,hk⟩;have hn:=Gn.NatV.of_own ho (h1.lim.take _);have hv:Gn.val (Gn.trim l0)=Gn.val l0:=Gn.val_trim l0;refine⟨R,_,d,_,rfl,hn,Gn.norm_trim l0,hv,?_,zas hk⟩;rw[<-hv];exact LN.of hn (Gn.norm_trim l0) (by rw[hv];exact hb) (fun a ha=>(zal ho (c:=a.block) (by rw[ha];rfl)).2)
theorem ln_one {Q:Nat->Prop} {w:World} {R:Option Addr} {m d x:Nat} (h:LN Q w R m d x) (hB:x<Gn.B):m=0\/(m=1/\∃b o,R=some ⟨b,o,none⟩/\w.cell? ⟨b,o,none⟩=some (.int .u64 (x:Int))):=by
 obtain⟨l,h1,h2,h3⟩:=h.nat;have hm:m<=1:=by rw[<-h1.len];exact h2.len_le (by rw[h3];simpa using hB)
 rcases Nat.lt_or_ge 0 m with h0|h0
 · right
   obtain⟨b,o,e,_⟩:=h1.row h0;refine⟨by omega,b,o,e,?_⟩;have a1:l.length=1:=by rw[h1.len];omega
   obtain⟨y,rfl⟩:∃y,l=[y]:=by
    cases l with
    | nil=>simp at a1
    | cons y l=>cases l with
      | nil=>exact⟨y,rfl⟩
      | cons=>simp at a1
   have hy:y=x:=by simpa[Gn.val] using h3
   have:=h1.cell e 0 (by simp)
   simpa[hy] using this
 · left;omega
theorem ntext_small {Q:Nat->Prop} {w:World} {A:Option Addr} {n c x:Nat} (h:LQ Q w A n c x) (hx:x<100) (hl:Laid3 w):
 Calls Tryz.prog 92 #[.slice A n c] w fun e w'=>e=.returned (.string ⟨(Lib.decDigits x).toArray⟩)/\New w w':=by
 have a1:x<Gn.B:=zqL hx (by decide);have H:=zqH (nnorm_c h (zqL a1 (by have:=@zbe 1 1000 (by omega);simpa using this)));have HL:=zqH hl;clear h hl;go_enter Tryz.func92,Tryz.ntmps92
 go_upto_region 3 with(go_at_call 147;refine H.out.mono ?_;rintro e w1 ⟨R,m,d,l,rfl,_,_,_,h4,h5⟩;have H1:=zqH (zN h4 h5);clear h4 h5 H)
 have HT:=zqH (ln_one H1.out.1 a1);have a2:=zqH (nsmall H1.out.1.lq);have a3:=zqH (fmtu_c (w:=w1) x (by omega) (HL.out.new H1.out.2))
 go_loopw [0,3] (fun v0 v3 wr=>v0=.slice R m d/\v3=.slice none 0 0/\wr=w1) (fun _ _ _=>0)
 case atStart=>exact⟨rfl,rfl,rfl⟩
 case round=>
  obtain⟨rfl,rfl,rfl⟩:=hrel;have b5:decide ((10000000000000000000:Int)<=(x:Int))=false:=by simp;omega
  rcases HT.out with hm|⟨hm,b,o,rfl,hc⟩
  all_goals
   subst hm
   go_wp2_with (first
    | (go_at_call 151;refine a2.out.mono ?_;rintro e w2 ⟨rfl,rfl⟩;rw[if_pos a1])
    | (go_at_call 149;refine a3.out.mono ?_;rintro e w3 ⟨rfl,a5⟩))
   go_loopw [9,10] (fun v9 v10 wr=>v9=.string ⟨(Lib.decDigits x).toArray⟩/\v10=.int .i64 (-1)/\wr=w3) (fun _ _ _=>0)
   case atStart=>exact⟨rfl,rfl,rfl⟩
   case round=>
    obtain⟨rfl,rfl,rfl⟩:=hrel;go_wp2;go_ret;exact⟨rfl,H1.out.2.trans a5⟩
theorem nshort_c {Q:Nat->Prop} {w:World} {A:Option Addr} {n c x b:Nat} (h:LQ Q w A n c x) (hb:0<b) (hbB:b<Gn.B) (hx:x<Gn.B ^ 1000):
 Calls Tryz.prog 148 #[.slice A n c,.int .u64 (b:Int)] w fun e w'=>∃R m d,e=.returned (.tuple #[.slice R m d,.int .u64 ((x % b:Nat):Int)])/\LN (NB w) w' R m d (x / b)/\New w w':=by
 obtain⟨l0,h1,rfl⟩:=h.nat;refine(short_c h1 hb hbB (by have:=h.few;omega)).mono ?_
 rintro e w' ⟨R,m,d,l,rfl,h2,h3,h4,h5,h6⟩;refine⟨R,m,d,rfl,?_,zas h5⟩;rw[<-h4];exact LN.of h2 h3 (by rw[h4];exact Nat.lt_of_le_of_lt (Nat.div_le_self _ _) hx) h6
theorem info9:(Tryz.prog.info? 9).map (fun i=>(i.zero,i.size,i.bytes))=some (some (.string ⟨#[]⟩),1,16):=by kernel_rfl
theorem cell_two (W:World) (o:Obj) (v u:Value) (zs:Array Value) {t:TypeId} (h:v=u):((W.alloc o).alloc (.cells (#[v] ++ zs) t)).drew.cell? ⟨W.heap.size+1,0,none⟩=some u:=by
 subst h;have e:(W.alloc o).heap.size=W.heap.size+1:=World.size_alloc W o;rw[<-e];exact zaa (t:=t) (fr:=(0,0)) (cs:=#[v] ++ zs) (zX (W.alloc o) _) 0 v (by rw[Array.getElem?_append_left (by simp)];rfl)
theorem ntext_big {Q:Nat->Prop} {w:World} {A:Option Addr} {n c:Nat} (h:LQ Q w A n c 500000000000000000000000000000000000) (hl:Laid3 w):
 Calls Tryz.prog 92 #[.slice A n c] w fun e w'=>e=.returned (.string ⟨(53 :: List.replicate 35 48).toArray⟩)/\New w w':=by
 have hb:(500000000000000000000000000000000000:Nat)<Gn.B ^ 1000:=zqL (show _<Gn.B ^ 2 by decide) (@zbe 2 1000 (by omega));have H:=zqH (nnorm_c h hb);have HL:=zqH hl;have HB:=zqH hb;clear h hl hb;go_enter Tryz.func92,Tryz.ntmps92
 go_upto_region 3 with(go_at_call 147;refine H.out.mono ?_;rintro e w1 ⟨R,m,d,l,rfl,h1,h2,h3,h4,h5⟩;have H1:=zqH (zN h4 h5);have HM:=zqH (zN h1 h3);clear h1 h2 h3 h4 h5 H)
 have hm:1<m:=by
  obtain⟨h1,h3⟩:=HM.out;rcases Nat.lt_or_ge 1 m with hm|hm
  · exact hm
  · have h4:=Gn.val_lt h1.lim;rw[h3,h1.len]at h4;have h5:Gn.B ^ m<=Gn.B ^ 1:=zbe hm;have h6:¬(500000000000000000000000000000000000:Nat)<Gn.B ^ 1:=(by decide);omega
 have a2:=nshort_c (b:=10000000000000000000) H1.out.1.lq (by decide) (by decide) HB.out;rw[show 500000000000000000000000000000000000 % 10000000000000000000=0 from by decide,show 500000000000000000000000000000000000 / 10000000000000000000=50000000000000000 from by decide]at a2;have a6:=zqH a2;clear a2;obtain⟨i0,e8,e9,f0,f2⟩:=info_parts info9
 go_loopw [0,3] (fun v0 v3 wr=>(v0=.slice R m d/\v3=.slice none 0 0/\wr=w1)\/(∃R2 m2 d2 g c2,v0=.slice R2 m2 d2/\v3=.slice (some ⟨g,0,none⟩) 1 c2/\Hid (LN (fun _=>True) wr R2 m2 d2 50000000000000000/\wr.cell? ⟨g,0,none⟩=some (.string ⟨(List.replicate 19 48).toArray⟩)/\New w wr))) (fun _ v3 _=>1-(match v3 with | .slice _ k _=>k|_=>0))
 case atStart=>exact .inl ⟨rfl,rfl,rfl⟩
 case round=>
  rcases hrel with⟨rfl,rfl,rfl⟩|⟨R2,m2,d2,g,c2,rfl,rfl,hI⟩
  · go_upto_region 6 with(first
     | (go_at_call 148;refine a6.out.mono ?_;rintro e w2 ⟨R2,m2,d2,rfl,a4,a3⟩)
     | (go_at_call 149;refine(fmtu_c (w:=w2) 0 (by decide) (HL.out.new (H1.out.2.trans a3))).mono ?_;rintro e w3 ⟨rfl,a1⟩;rw[show Lib.decDigits 0=[48] from by decide +kernel]))
    have a7:Lib.repeatL [48] 18=List.replicate 18 48:=(by decide +kernel);have a8:=zqH (Tryz.strings_Repeat ⟨#[48]⟩ 18 w3 (by decide) (by decide));have HN:=zqH (zN a4 (zN a3 a1));clear a4 a3 a1 a6
    go_wp2_with (go_at_call 150;refine a8.out.mono ?_;rintro e w4 ⟨rfl,c5⟩;rw[a7];have a9:=zas c5;clear c5)
    obtain⟨a4,a3,a1⟩:=HN.out;have b0:=fun(o o':Obj)=>((zU (fun _=>False) w4 o).trans (zU (fun _=>False) _ o')).drew;refine⟨.inr ⟨R2,m2,d2,w4.heap.size+1,_,rfl,rfl,zqH ⟨((a4.new ((a1.trans a9).trans (b0 _ _))).mono (fun _ _ _=>trivial)),?_,(((H1.out.2.trans a3).trans a1).trans a9).trans (b0 _ _)⟩⟩,by simp⟩;exact cell_two _ _ _ _ _ (congrArg Value.string (by decide +kernel))
  · obtain⟨h4,hg,hn⟩:=hI.out;have b5:=zqH (nsmall h4.lq);have b6:=zqH (fmtu_c (w:=wr) 50000000000000000 (by decide) (HL.out.new hn));have HN:=zqH hn;have HG:=zqH hg;have d9:Lib.decDigits 50000000000000000=53 :: List.replicate 16 48:=(by decide +kernel);have e6:decide ((10000000000000000000:Int)<=50000000000000000)=false:=(by decide);rcases ln_one h4 (by decide) with c6|⟨c6,b,o,rfl,hc⟩
    all_goals
     subst c6;clear hI h4 hn hg
     go_wp2_with (first
      | (go_at_call 151;refine b5.out.mono ?_;rintro e w2 ⟨rfl,rfl⟩;rw[if_pos (by decide)])
      | (go_at_call 149;refine b6.out.mono ?_;rintro e w3 ⟨rfl,a1⟩;rw[d9]))
     have e7:=(a1.cell (a:=⟨g,0,none⟩) (zqB wr _ HG.out) id).trans HG.out
     go_loopw [9,10] (fun v9 v10 wr=>(v9=.string ⟨(53 :: List.replicate 16 48).toArray⟩/\v10=.int .i64 0/\wr=w3)\/(v9=.string ⟨(53 :: List.replicate 35 48).toArray⟩/\v10=.int .i64 (-1)/\wr=w3)) (fun _ v10 _=>(intOf v10+1).toNat)
     case atStart=>exact .inl ⟨rfl,rfl,rfl⟩
     case round=>
      rcases hrel with⟨rfl,rfl,rfl⟩|⟨rfl,rfl,rfl⟩
      · go_wp2
        exact⟨.inr ⟨by congr 1,by trivial,by trivial⟩,by simp[intOf]⟩
      · go_wp2
        go_ret
        exact⟨rfl,HN.out.trans a1⟩
def halfS:List UInt8:=53 :: List.replicate 35 48
def halfV:List Value:=halfS.map fun b=>.int .u8 (b.toNat:Int)
def zero36:List Value:=List.replicate 36 (.int .u8 0)
theorem halfV_len:halfV.length=36:=by decide
def rowH (i:Nat):List Value:=halfV.take i ++ zero36.drop i
theorem halfV_at {i:Nat} (h:i<36):∃b:UInt8,halfS[i]?=some b/\halfV[i]?=some (.int .u8 (b.toNat:Int)):=by
 have hl:i<halfS.length:=by show i<36;exact h
 exact⟨halfS[i],zG hl,by unfold halfV;rw[List.getElem?_map,zG hl];rfl⟩
theorem rowH_len {i:Nat} (h:i<=36):(rowH i).length=36:=by
 unfold rowH zero36;rw[List.length_append,List.length_drop,List.length_replicate,List.length_take,halfV_len];omega
theorem Upd.setRow {S:Nat->Prop} (w:World) {g:Nat} (cs:Array Value) (hs:S g):Upd S w (w.setRow g cs):=
 ⟨rfl,rfl,rfl,by simp[World.setRow],fun c hc hn=>by
   show(w.heap.modify g _)[c]?=_
   rw[Array.getElem?_modify,if_neg (fun e:g=c=>hn (e▸hs))]⟩
theorem rowH_next {i:Nat} (h:i<36) {v:Value} (hv:halfV[i]?=some v) (u:Value):((rowH i).toArray.setIfInBounds i u).setIfInBounds i v=(rowH (i+1)).toArray:=by
 refine Array.ext_getElem? fun j=>?_
 have e1:(halfV.take i).length=i:=by rw[List.length_take,halfV_len];omega
 have e2:(halfV.take (i+1)).length=i+1:=by rw[List.length_take,halfV_len];omega
 have a1:(rowH i).length=36:=by unfold rowH zero36;rw[List.length_append,e1,List.length_drop,List.length_replicate];omega
 rw[Array.getElem?_setIfInBounds,Array.getElem?_setIfInBounds];simp only[Array.size_setIfInBounds,List.size_toArray,a1,List.getElem?_toArray];by_cases hj:i=j
 · subst hj;rw[if_pos rfl,if_pos h];unfold rowH;rw[List.getElem?_append_left (by omega),List.getElem?_take_of_lt (by omega),hv]
 · rw[if_neg hj,if_neg hj];unfold rowH;rcases Nat.lt_or_gt_of_ne hj with h1|h1
   · rw[List.getElem?_append_right (by omega),List.getElem?_append_right (by omega),e1,e2,List.getElem?_drop,List.getElem?_drop]
     congr 1;omega
   · rw[List.getElem?_append_left (by omega),List.getElem?_append_left (by omega),List.getElem?_take_of_lt h1,List.getElem?_take_of_lt (by omega)]
theorem places_c {Q:Nat->Prop} {w:World} {A:Option Addr} {n c:Nat} (h:LQ Q w A n c 500000000000000000000000000000000000) (hl:Laid3 w):
 Calls Tryz.prog 93 #[.agg #[.slice A n c]] w fun e w'=>e=.returned (.agg halfV.toArray)/\New w w':=by
 obtain⟨W1,a1⟩:∃W,W=w.alloc (.cells #[.slice A n c] 26):=⟨_,rfl⟩
 obtain⟨W2,a2⟩:∃W,W=W1.alloc (.cells #[.int .u8 0,.int .u8 0,.int .u8 0,.int .u8 0,.int .u8 0,.int .u8 0,.int .u8 0,.int .u8 0,.int .u8 0,.int .u8 0,.int .u8 0,.int .u8 0,.int .u8 0,.int .u8 0,.int .u8 0,.int .u8 0,.int .u8 0,.int .u8 0,.int .u8 0,.int .u8 0,.int .u8 0,.int .u8 0,.int .u8 0,.int .u8 0,.int .u8 0,.int .u8 0,.int .u8 0,.int .u8 0,.int .u8 0,.int .u8 0,.int .u8 0,.int .u8 0,.int .u8 0,.int .u8 0,.int .u8 0,.int .u8 0] 164):=⟨_,rfl⟩
 obtain⟨W3,a3⟩:∃W,W=W2.alloc (.cells #[.int .u8 0,.int .u8 0,.int .u8 0,.int .u8 0,.int .u8 0,.int .u8 0,.int .u8 0,.int .u8 0,.int .u8 0,.int .u8 0,.int .u8 0,.int .u8 0,.int .u8 0,.int .u8 0,.int .u8 0,.int .u8 0,.int .u8 0,.int .u8 0,.int .u8 0,.int .u8 0,.int .u8 0,.int .u8 0,.int .u8 0,.int .u8 0,.int .u8 0,.int .u8 0,.int .u8 0,.int .u8 0,.int .u8 0,.int .u8 0,.int .u8 0,.int .u8 0,.int .u8 0,.int .u8 0,.int .u8 0,.int .u8 0] 164):=⟨_,rfl⟩
 have s1:W1.heap.size=w.heap.size+1:=by rw[a1];exact World.size_alloc _ _
 have s2:W2.heap.size=w.heap.size+1+1:=by rw[a2,World.size_alloc,s1]
 have s3:W3.heap.size=w.heap.size+1+1+1:=by rw[a3,World.size_alloc,s2]
 have n1:New w W1:=by rw[a1];exact zU _ _ _
 have n2:New W1 W2:=by rw[a2];exact zU _ _ _
 have n3:New W2 W3:=by rw[a3];exact zU _ _ _
 have k0:W3.heap[w.heap.size]?=some (.cells #[.slice A n c] 26 (0,0)):=(n3.block _ (by omega) id).trans ((n2.block _ (by omega) id).trans (by rw[a1];exact zX w _));have k1:W3.heap[w.heap.size+1]?=some (.cells zero36.toArray 164 (0,0)):=(n3.block _ (by omega) id).trans (by rw[a2,<-s1];exact zX W1 _);have k2:W3.heap[w.heap.size+1+1]?=some (.cells (rowH 0).toArray 164 (0,0)):=by rw[a3,<-s2];exact zX W2 _
 have x0:=zaa k0 0 _ rfl;have HN:=zqH ((n1.trans n2).trans n3);obtain⟨SV,a7⟩:∃SV:ByteArray,SV=⟨(53 :: List.replicate 35 48).toArray⟩:=⟨_,rfl⟩
 have a9:=ntext_big (h.new HN.out) (hl.new HN.out);rw[<-a7]at a9;have d9:=zqH a9;have e0:SV.size=36:=by rw[a7];rfl
 have HK:=zqH (zN k1 (zN k2 s3));have b6:∀(k:Nat) (b:UInt8) (W:World),halfS[k]?=some b → (Instr.index 9 (.string SV) (.int .i64 (k:Int))).run Tryz.prog W=.ok (.int .u8 (b.toNat:Int)) W:=fun k b W hk=>by
  have hl:k<36:=(List.getElem?_eq_some_iff.1 hk).1;have h2:k<SV.size:=by rw[e0];exact hl
  have e:SV[k]'h2=b:=by
   subst a7;obtain⟨h1,h3⟩:=List.getElem?_eq_some_iff.1 hk;exact h3
  rw[run_index_string W 9 SV .i64 (k:Int) Tryz.underlying9,dif_pos ⟨by omega,by omega⟩];simp[e]
 have e1:=zqH b6;clear a7 a9 n1 n2 n3 s1 s2 s3 k0 k1 k2 h hl b6;go_enter Tryz.func93,Tryz.ntmps93
 go_upto_region 2 with fail
 rw[<-a1,<-a2,<-a3];clear a1 a2 a3
 go_upto_region 3 with(go_at_call 92;refine d9.out.mono ?_;rintro e w4 ⟨rfl,d5⟩;have H4:=zqH d5;clear d5)
 obtain⟨k1,k2,s3⟩:=HK.out;have f4:=H4.out.size;replace k1:=(H4.out.block _ (by omega) id).trans k1;replace k2:=(H4.out.block _ (by omega) id).trans k2;have e2:=zqH k1;have e3:=zqH k2;clear HK k1 k2;go_wp2
 go_loopw [10] (fun v10 wr=>∃i:Nat,i<=36/\v10=.int .i64 (i:Int)/\Hid (wr.heap[w.heap.size+1+1]?=some (.cells (rowH i).toArray 164 (0,0))/\Upd (fun b=>b=w.heap.size+1+1) w4 wr)) (fun v10 _=>36-(intOf v10).toNat)
 case atStart=>exact⟨0,by omega,rfl,zqH ⟨e3.out,Upd.refl _ _⟩⟩
 case round=>
  obtain⟨i,hi,rfl,hI⟩:=hrel;by_cases h36:i<36
  · obtain⟨b,e7,e8⟩:=halfV_at h36;have hj:=fun W=>e1.out i b W e7;have q1:=zac hI.out.1 (.int .u8 48) (i:=i);have c0:∃u,(rowH i)[i]?=some u:=⟨_,zG (by rw[rowH_len (by omega)];exact h36)⟩
    obtain⟨u,hu⟩:=c0;have x1:=zaa hI.out.1 i u (by simpa using hu);have z1:=zad hI.out.1 i;have x2:=zaa q1 i (.int .u8 48) (by rw[Array.getElem?_setIfInBounds,if_pos rfl,if_pos (by simp[rowH_len (show i<=36 by omega)];exact h36)]);have z2:=zad q1 i;clear hu;go_wp2;refine⟨⟨i+1,by omega,by congr 1,zqH ⟨?_,hI.out.2.trans ((Upd.setCell (S:=fun b=>b=w.heap.size+1+1) wr _ rfl).trans (Upd.setCell _ _ rfl))⟩⟩,by simp[intOf];omega⟩;rw[zac q1,rowH_next h36 e8]
  · obtain rfl:i=36:=(by omega);obtain⟨RV,a4⟩:=zE halfV.toArray;have b7:(rowH 36).toArray=RV:=(by rw[a4];rfl);have a6:=hI.out;rw[b7]at a6;have HI:=zqH a6;have b8:RV.size=36:=(by rw[a4];rfl);have k1:=(a6.2.block (w.heap.size+1) (by omega) (by omega)).trans e2.out;have b9:RV.all (·.oneCell')=true:=(by rw[a4];decide +kernel);have hi:(Tryz.prog.info? 164).map (·.size)=some RV.size:=(by rw[b8];kernel_rfl);have e5:=zqH a4;have HC:=zqH b9;clear hI a6 a4 b9 b7
    go_wp2_with (first
     | (refine wpList_load_row rfl 164 (.tmp 3) rfl (w.heap.size+1+1) rfl 164 RV (0,0) _ HI.out.1 Tryz.underlying164 rfl hi ?_)
     | (refine wpList_store_row rfl 164 (.tmp 2) (.tmp 28) rfl (w.heap.size+1) RV rfl rfl 164 zero36.toArray k1 hi (by rw[b8];rfl) HC.out ?_))
    refine bodyPost_ret (results_cell_row Tryz.results93 _ _ (w.heap.size+1) 164 RV (0,0) _ rfl (setRow_heap wr (w.heap.size+1) _ RV 164 _ k1) Tryz.underlying164 rfl hi) rfl ?_
    have e6:Upd (fun b=>b=w.heap.size+1) wr (wr.setRow (w.heap.size+1) RV):=Upd.setRow wr RV rfl;exact⟨by rw[e5.out],(((HN.out.trans H4.out).then HI.out.2 (fun b hb e=>by omega)).then e6 (fun b hb e=>by omega))⟩
theorem text_whole {Q:Nat->Prop} {w:World} {A:Option Addr} {n c k x:Nat} (h:LQ Q w A n c x) (hx:x=k*10 ^ 36) (hk:k<100) (hl:Laid3 w):
 Calls Tryz.prog 44 #[.agg #[.slice A n c]] w fun e w'=>e=.returned (.string ⟨(Lib.decDigits k).toArray⟩)/\New w w':=by
 obtain⟨W1,a1⟩:∃W,W=w.alloc (.cells #[.slice A n c] 26):=⟨_,rfl⟩
 have n1:New w W1:=by rw[a1];exact zU _ _ _
 have k0:W1.heap[w.heap.size]?=some (.cells #[.slice A n c] 26 (0,0)):=by rw[a1];exact zX w _
 have x0:=zaa k0 0 _ rfl;have a3:=trunc_c (h.new n1);rw[show x / 10 ^ 36=k from by rw[hx];exact Nat.mul_div_cancel _ (by decide),show x % 10 ^ 36=0 from by rw[hx];exact Nat.mul_mod_left _ _]at a3;have a8:=zqH a3;have HN:=zqH (zN n1 hl);clear a3 n1 hl h k0;go_enter Tryz.func44,Tryz.ntmps44
 go_upto_region 1 with fail
 rw[<-a1];clear a1
 go_upto_region 2 with(go_at_call 86;refine a8.out.mono ?_;rintro e w2 ⟨R,m,d,R',m',d',rfl,h1,h2,a5⟩;have H2:=zqH (zN h1 (zN h2 a5));clear h1 h2 a5)
 obtain⟨W3,a2⟩:∃W,W=w2.alloc (.cells #[.slice R' m' d'] 26):=⟨_,rfl⟩
 rw[<-a2];have n3:New w2 W3:=by rw[a2];exact zU _ _ _
 have k3:W3.heap[w2.heap.size]?=some (.cells #[.slice R' m' d'] 26 (0,0)):=by rw[a2];exact zX w2 _
 have HK:=zqH k3;have N3:=zqH n3;have HL:=zqH (HN.out.2.new ((HN.out.1.trans H2.out.2.2).trans n3));clear a2 k3 n3
 go_wp2_with (first
  | (go_at_call 92;refine(ntext_small (w:=W3) ((H2.out.1.new N3.out).lq) hk HL.out).mono ?_;rintro e w4 ⟨rfl,a4⟩;have x4:=zaa ((a4.block _ (zqA.1 HK.out).1 id).trans HK.out) 0 _ rfl;have H4:=zqH a4;clear a4)
  | (go_at_call 26;refine(dzero_c (w:=w4) ((H2.out.2.1.new (N3.out.trans H4.out)).lq)).mono ?_;rintro e w5 ⟨rfl,a6⟩;rw[decide_eq_true rfl];have H5:=zqH a6;clear a6))
 go_ret
 exact⟨rfl,(((HN.out.1.trans H2.out.2.2).trans N3.out).trans H4.out).trans H5.out⟩
theorem text_half {Q:Nat->Prop} {w:World} {A:Option Addr} {n c x:Nat} (h:LQ Q w A n c x) (hx:x=2500000000000000000000000000000000000) (hl:Laid3 w):
 Calls Tryz.prog 44 #[.agg #[.slice A n c]] w fun e w'=>e=.returned (.string ⟨#[50,46,53]⟩)/\New w w':=by
 obtain⟨W1,a2⟩:∃W,W=w.alloc (.cells #[.slice A n c] 26):=⟨_,rfl⟩
 have n1:New w W1:=by rw[a2];exact zU _ _ _
 have k0:W1.heap[w.heap.size]?=some (.cells #[.slice A n c] 26 (0,0)):=by rw[a2];exact zX w _
 have x0:=zaa k0 0 _ rfl;have a8:=trunc_c (h.new n1);rw[show x / 10 ^ 36=2 from by rw[hx],show x % 10 ^ 36=500000000000000000000000000000000000 from by rw[hx]]at a8;have d8:=zqH a8;have HN:=zqH (zN n1 hl);clear a8 n1 hl h k0 hx;go_enter Tryz.func44,Tryz.ntmps44
 go_upto_region 1 with fail
 rw[<-a2];clear a2
 go_upto_region 2 with(go_at_call 86;refine d8.out.mono ?_;rintro e w2 ⟨R,m,d,R',m',d',rfl,h1,h2,d5⟩;have H2:=zqH (zN h1 (zN h2 d5));clear h1 h2 d5)
 obtain⟨W3,a3⟩:∃W,W=w2.alloc (.cells #[.slice R' m' d'] 26):=⟨_,rfl⟩
 rw[<-a3];have n3:New w2 W3:=by rw[a3];exact zU _ _ _
 have k3:W3.heap[w2.heap.size]?=some (.cells #[.slice R' m' d'] 26 (0,0)):=by rw[a3];exact zX w2 _
 have HK:=zqH k3;have N3:=zqH n3;have HL:=zqH (HN.out.2.new ((HN.out.1.trans H2.out.2.2).trans n3));clear a3 k3 n3;have e2:Lib.decDigits 2=[50]:=by decide +kernel
 go_upto_region 5 with(first
  | (go_at_call 92;refine(ntext_small (w:=W3) ((H2.out.1.new N3.out).lq) (by decide) HL.out).mono ?_;rintro e w4 ⟨rfl,b5⟩;rw[e2];have k4:=(b5.block _ (zqA.1 HK.out).1 id).trans HK.out;have x4:=zaa k4 0 _ rfl;have H4:=zqH (zN b5 k4);clear b5 k4)
  | (go_at_call 26;refine(dzero_c (w:=w4) ((H2.out.2.1.new (N3.out.trans H4.out.1)).lq)).mono ?_;rintro e w5 ⟨rfl,b6⟩;rw[decide_eq_false (by decide)];have k5:=(b6.block _ (zqA.1 H4.out.2).1 id).trans H4.out.2;have x5:=zaa k5 0 _ rfl;have H5:=zqH b6;clear b6 k5))
 obtain⟨RV,a1⟩:=zE halfV.toArray;have a9:RV.size=36:=by rw[a1];rfl
 have b9:RV.all (·.oneCell')=true:=by rw[a1];decide +kernel
 have hi:(Tryz.prog.info? 164).map (·.size)=some RV.size:=by rw[a9];kernel_rfl
 have b0:=places_c (w:=w5) ((H2.out.2.1.new ((N3.out.trans H4.out.1).trans H5.out)).lq) (HL.out.new (H4.out.1.trans H5.out));rw[<-a1]at b0;have e3:=zqH b0;have e4:=zqH a1;have HC:=zqH b9;clear b0 a1 b9
 go_upto_region 6 with(first
  | (go_at_call 93;refine e3.out.mono ?_;rintro e w6 ⟨rfl,d6⟩;have k6:=(zX w6 (.cells #[.int .u8 0,.int .u8 0,.int .u8 0,.int .u8 0,.int .u8 0,.int .u8 0,.int .u8 0,.int .u8 0,.int .u8 0,.int .u8 0,.int .u8 0,.int .u8 0,.int .u8 0,.int .u8 0,.int .u8 0,.int .u8 0,.int .u8 0,.int .u8 0,.int .u8 0,.int .u8 0,.int .u8 0,.int .u8 0,.int .u8 0,.int .u8 0,.int .u8 0,.int .u8 0,.int .u8 0,.int .u8 0,.int .u8 0,.int .u8 0,.int .u8 0,.int .u8 0,.int .u8 0,.int .u8 0,.int .u8 0,.int .u8 0] 164));have H6:=zqH d6;clear d6)
  | (refine wpList_store_row rfl 164 (.tmp 6) (.tmp 18) rfl w6.heap.size RV rfl rfl 164 #[.int .u8 0,.int .u8 0,.int .u8 0,.int .u8 0,.int .u8 0,.int .u8 0,.int .u8 0,.int .u8 0,.int .u8 0,.int .u8 0,.int .u8 0,.int .u8 0,.int .u8 0,.int .u8 0,.int .u8 0,.int .u8 0,.int .u8 0,.int .u8 0,.int .u8 0,.int .u8 0,.int .u8 0,.int .u8 0,.int .u8 0,.int .u8 0,.int .u8 0,.int .u8 0,.int .u8 0,.int .u8 0,.int .u8 0,.int .u8 0,.int .u8 0,.int .u8 0,.int .u8 0,.int .u8 0,.int .u8 0,.int .u8 0] k6 hi (by rw[a9];rfl) HC.out ?_))
 obtain⟨W7,a6⟩:∃W,W=(w6.alloc (.cells #[.int .u8 0,.int .u8 0,.int .u8 0,.int .u8 0,.int .u8 0,.int .u8 0,.int .u8 0,.int .u8 0,.int .u8 0,.int .u8 0,.int .u8 0,.int .u8 0,.int .u8 0,.int .u8 0,.int .u8 0,.int .u8 0,.int .u8 0,.int .u8 0,.int .u8 0,.int .u8 0,.int .u8 0,.int .u8 0,.int .u8 0,.int .u8 0,.int .u8 0,.int .u8 0,.int .u8 0,.int .u8 0,.int .u8 0,.int .u8 0,.int .u8 0,.int .u8 0,.int .u8 0,.int .u8 0,.int .u8 0,.int .u8 0] 164)).setRow w6.heap.size RV:=⟨_,rfl⟩
 rw[<-a6];have c5:New w6 W7:=by rw[a6];exact(zU (fun _=>False) w6 _).then (Upd.setRow (S:=fun b=>b=w6.heap.size) _ RV rfl) (fun b hb e=>by omega)
 have k7:W7.heap[w6.heap.size]?=some (.cells RV 164 (0,0)):=by rw[a6];exact setRow_heap _ _ _ RV 164 _ k6
 have e6:(convert 113 9 (.slice (some ⟨w6.heap.size,0,none⟩) 36 36)).run Tryz.prog W7=.ok (.string ⟨halfS.toArray⟩) W7:=by
  have h:=run_convert_bytes_back (P:=Tryz.prog) W7 113 9 5 ⟨w6.heap.size,0,none⟩ 36 halfS Tryz.underlying113 Tryz.underlying5 Tryz.underlying9 (fun j hj=>by
   rw[Lib.add_plain,cell_of_row W7 w6.heap.size _ RV 164 (0,0) k7,e4.out,Nat.zero_add];unfold halfV;simp[hj])
  exact h
 obtain⟨SV,a7⟩:∃SV:ByteArray,SV=⟨halfS.toArray⟩:=⟨_,rfl⟩
 rw[<-a7]at e6;have c6:Calls Tryz.prog 94 #[.string SV,.string ⟨#[48]⟩] W7 fun e w'=>e=.returned (.string ⟨#[53]⟩)/\w'=W7:=by
  have h:=Tryz.strings_TrimRight_one SV 48 (by decide) W7 (by rw[a7];decide);rw[show(Lib.trimRightB SV.data.toList 48).toArray=#[53] from by rw[a7];decide +kernel]at h;exact h
 have e7:=zqH c6;have H7:=zqH c5;clear c6 c5 k7 k6 a6 a7 hi a9
 go_wp2_with (go_at_call 94;refine e7.out.mono ?_;rintro e w8 ⟨rfl,rfl⟩)
 go_ret
 refine⟨congrArg Ending.returned (congrArg Value.string (by decide +kernel)),((((HN.out.1.trans H2.out.2.2).trans N3.out).trans H4.out.1).trans H5.out).trans (H6.out.trans H7.out)⟩
end Gz
