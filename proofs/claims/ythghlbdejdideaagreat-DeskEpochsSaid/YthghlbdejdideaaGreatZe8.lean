/-
  Texts of mine, put together by program (wip/slim.py), for law_deskEpochs: part 8.
-/
import Derived.Test.YthghlbdejdideaaGreatZe7
import Derived.Test.YthghlbdejdideaaGreatProg
noncomputable section
set_option linter.unusedVariables false
set_option linter.unusedSimpArgs false
set_option linter.defProp false
set_option maxRecDepth 100000
/- FnS0 -/
namespace Go.Ax
open Go.Proofs
def zfn:TypeId:=3
def zak:TypeId:=5
def zen:TypeId:=22
def zal:TypeId:=31
def zaj:TypeId:=33
def zah:TypeId:=36
def zbB:TypeId:=44
def zeD:TypeId:=49
def zgQ:TypeId:=56
def zai:TypeId:=60
def zcl:TypeId:=69
def zab:TypeId:=71
def zfo:TypeId:=126
def zf8:TypeId:=128
def zkG:TypeId:=140
def zbu:TypeId:=161
def zf7:TypeId:=211
def zeE:TypeId:=213
def zaC:TypeId:=221
def zfp:TypeId:=223
def zdt:TypeId:=225
def zae:TypeId:=229
def zc3:TypeId:=249
def znb:TypeId:=305
def zqX:TypeId:=322
def zbJ:TypeId:=389
def zlf:TypeId:=394
def zjb:TypeId:=398
def zez:TypeId:=417
def zna:TypeId:=470
def znc:TypeId:=484
def zfC:FuncId:=3
def zfD:FuncId:=15
def zdj:FuncId:=48
def zcq:FuncId:=49
def zbs:FuncId:=16
def zaG:FuncId:=19
def zeN:FuncId:=50
def za5:FuncId:=51
def zbq:FuncId:=85
def zcy:FuncId:=130
def zch:FuncId:=86
def zd6:FuncId:=131
def zcf:FuncId:=82
def zdf:FuncId:=128
def zd5:FuncId:=129
def zcj:FuncId:=87
def zfg:FuncId:=132
def zdS:FuncId:=200
def zeM:FuncId:=46
def zcK:FuncId:=83
def zcI:FuncId:=84
def zin:FuncId:=88
def ze4:FuncId:=89
def zo5:FuncId:=133
def zno:FuncId:=201
def zqj:FuncId:=278
def zbF:FuncId:=150
def ziR:FuncId:=279
def zjC:FuncId:=280
def zhZ:FuncId:=281
def zix:FuncId:=282
def zjJ:FuncId:=134
def zks:FuncId:=202
def zgy:FuncId:=68
def zkr:FuncId:=203
def zqm:FuncId:=283
def zlk:FuncId:=284
def zmD:FuncId:=318
def zkp:FuncId:=354
def zcT:FuncId:=353
def zcA:FuncId:=147
def zbD:FuncId:=236
def zku:FuncId:=135
def zjI:FuncId:=204
def zjG:FuncId:=285
def zo8:FuncId:=335
def zqr:FuncId:=336
def znv:FuncId:=337
def zkx:FuncId:=348
def zkq:FuncId:=286
def zeO:FuncId:=148
def zo6:FuncId:=237
def zcp:FuncId:=320
def zcJ:FuncId:=355
def zmC:FuncId:=321
def zqn:FuncId:=322
def zqk:FuncId:=357
def zo4:FuncId:=356
def zcE:FuncId:=358
def zcS:FuncId:=364
def znq:FuncId:=359
def zqi:FuncId:=323
def zrq:FuncId:=324
def znp:FuncId:=360
def zql:FuncId:=137
def zjD:FuncId:=208
def zkt:FuncId:=136
def znr:FuncId:=206
def zln:FuncId:=205
def zru:FuncId:=287
def zjH:FuncId:=207
def zcL:FuncId:=90
def zfZ:FuncId:=138
def zdi:FuncId:=209
def zdD:FuncId:=210
def zfz:FuncId:=288
def zeA:FuncId:=338
def zby:FuncId:=139
def zeb:FuncId:=140
def zdy:FuncId:=211
def zcO:FuncId:=212
def zf4:FuncId:=141
def zg5:FuncId:=142
def zjB:FuncId:=213
def zg4:FuncId:=290
def zaZ:FuncId:=289
def zbt:FuncId:=143
def zdc:FuncId:=214
def zaV:FuncId:=215
def zcr:FuncId:=216
def ziX:FuncId:=291
def zfE:FuncId:=224
def zdp:FuncId:=217
def zfR:FuncId:=292
def zdb:FuncId:=221
def zda:FuncId:=222
def zhF:FuncId:=293
def ziW:FuncId:=294
def zh6:FuncId:=339
def zo9:FuncId:=362
def zkw:FuncId:=295
def ziD:FuncId:=218
def zlo:FuncId:=296
def zjK:FuncId:=341
def zeL:FuncId:=340
def zfy:FuncId:=363
def zlp:FuncId:=297
def znt:FuncId:=342
def zlu:FuncId:=299
def zgB:FuncId:=300
def zmE:FuncId:=310
def zbM:FuncId:=298
def zbW:FuncId:=343
def zh5:FuncId:=219
def zf5:FuncId:=220
def zlq:FuncId:=301
def zg3:FuncId:=344
def ze5:FuncId:=223
def zg6:FuncId:=144
def zeh:FuncId:=225
def zeU:FuncId:=302
def zcW:FuncId:=91
def zg7:FuncId:=145
def zeW:FuncId:=226
def zer:FuncId:=227
def zf3:FuncId:=146
def zqh:FuncId:=228
def zrp:FuncId:=303
def zo3:FuncId:=346
def znn:FuncId:=347
def zdh:FuncId:=345
def zqg:FuncId:=305
def ztF:FuncId:=304
def zmB:FuncId:=306
def znu:FuncId:=229
def zqq:FuncId:=307
def zns:FuncId:=308
def zg2:FuncId:=309
def ziU:FuncId:=230
def ztI:FuncId:=311
def zjE:FuncId:=312
def zo1:FuncId:=313
def zo0:FuncId:=349
def zlm:FuncId:=231
def zqp:FuncId:=314
def zls:FuncId:=350
def ztH:FuncId:=315
def zrs:FuncId:=316
def zro:FuncId:=232
def zlr:FuncId:=234
def ztG:FuncId:=233
def zo2:FuncId:=317
def zeV:FuncId:=351
def zes:FuncId:=352
def zll:FuncId:=235
def zdg:FuncId:=319
def zaO:FuncId:=52
def zfj:FuncId:=92
def zbI:FuncId:=149
def zc8:FuncId:=151
def zio:FuncId:=238
def zbE:FuncId:=239
def zd9:FuncId:=240
def zc9:FuncId:=93
def zbw:FuncId:=152
def zea:FuncId:=241
def zdm:FuncId:=94
def zf0:FuncId:=153
def zfd:FuncId:=242
def zbC:FuncId:=325
def zfh:FuncId:=243
def zd8:FuncId:=326
def zdz:FuncId:=154
def zc7:FuncId:=244
def zcc:FuncId:=155
def zbU:FuncId:=95
def zff:FuncId:=156
def zeB:FuncId:=163
def zfe:FuncId:=246
def zfc:FuncId:=327
def zeC:FuncId:=251
def zcz:FuncId:=97
def zbp:FuncId:=164
def zkQ:FuncId:=157
def znm:FuncId:=245
def zdl:FuncId:=158
def zgz:FuncId:=159
def zkv:FuncId:=247
def ziV:FuncId:=329
def zd7:FuncId:=328
def zeK:FuncId:=330
def zrt:FuncId:=248
def zrr:FuncId:=331
def zjF:FuncId:=249
def zho:FuncId:=160
def zf1:FuncId:=161
def zf2:FuncId:=250
def zgA:FuncId:=53
def zqo:FuncId:=96
def zo7:FuncId:=162
def zci:FuncId:=54
def zbx:FuncId:=98
def za2:FuncId:=24
def zdk:FuncId:=58
def zcm:FuncId:=101
def zay:FuncId:=27
def zbO:FuncId:=62
def zas:FuncId:=61
def zaI:FuncId:=102
def zaL:FuncId:=103
def zaq:FuncId:=104
def zbN:FuncId:=105
def zaD:FuncId:=66
def zcB:FuncId:=18
def zck:FuncId:=25
def zcn:FuncId:=59
def za0:FuncId:=17
def zbr:FuncId:=26
def zaM:FuncId:=60
def ziT:FuncId:=20
def zeX:FuncId:=21
def zaA:FuncId:=55
def zhC:FuncId:=56
def zhD:FuncId:=99
def zha:FuncId:=100
def zb0:FuncId:=22
def zbb:FuncId:=57
def zbc:FuncId:=23
def zfB:FuncId:=4
def zfP:FuncId:=5
def zh4:FuncId:=28
def zfQ:FuncId:=6
def zfi:FuncId:=7
def zbk:FuncId:=9
def zbj:FuncId:=29
def zhB:FuncId:=63
def zh2:FuncId:=106
def ziS:FuncId:=125
def zhA:FuncId:=111
def zh3:FuncId:=41
def zh1:FuncId:=76
def zg9:FuncId:=77
def ziy:FuncId:=78
def zh0:FuncId:=166
def zgj:FuncId:=79
def ziz:FuncId:=108
def zfA:FuncId:=107
def zeY:FuncId:=109
def zg8:FuncId:=110
def zeZ:FuncId:=167
def zhE:FuncId:=252
def zb1:FuncId:=31
def zcg:FuncId:=64
def zbv:FuncId:=65
def hintRows:List (Nat×List (List Nat)):=[
 (zfC,[[15,16],[15,16],[15,16],[15,16],[15],[15,19],[15],[0,1,2,3,4,5,6,7,8,9,10,11,12,13,14,15],[15],[15,16],[16],[10]]),
 (zfD,[[],[6],[],[0,1,3,4,2,5,6]]),
 (zdj,[]),
 (zcq,[]),
 (zbs,[]),
 (zaG,[[],[],[],[],[0,1,2,3,4,5,6,7,8,9,10,11,12]]),
 (zeN,[]),
 (za5,[]),
 (zbq,[[]]),
 (zcy,[]),
 (zch,[[],[10],[]]),
 (zd6,[]),
 (zcf,[[],[9],[]]),
 (zdf,[[],[10],[]]),
 (zd5,[]),
 (zcj,[[0,1,2,3,4,5,6,7,8,9,10,11,12,14,15,16,13]]),
 (zfg,[]),
 (zdS,[]),
 (zeM,[[],[19],[],[0,1,2,3,4,5,6,7,8,9,10,11,12,13,14,15,16,17,18,19,20,21,22,23,24,25,26,27,28,29,30,31,32]]),
 (zcK,[]),
 (zcI,[[3],[3,11],[3],[3]]),
 (zin,[]),
 (ze4,[[],[30],[],[],[],[],[],[],[56],[],[],[],[72],[]]),
 (zo5,[[4],[0,4],[0,4],[0,1,2,3,4,5,6,7,8,9,10,11,12,13,14,16,17,15,18],[0,1,2,3,4,5,6,7,8,9,10,11,12],[]]),
 (zno,[[0,1,2,3,4,5,6,7,8,9,10,11,12,13,14,15],[],[],[]]),
 (zqj,[[]]),
 (zbF,[]),
 (ziR,[]),
 (zjC,[[5],[5,28],[5]]),
 (zhZ,[[5],[5,8],[5]]),
 (zix,[[],[],[],[4],[],[0,1,2,3,4,5,8,6,9,7,10,11,12,13,14,15,16],[],[],[5],[],[],[0,1,2,3,4,5,7,6,8,9,10,11,12,13,14,15],[],[],[94],[],[0,1,2,3,4,5,6,7,8,9,10,11]]),
 (zjJ,[[],[39],[],[0,1,2,3,4,5,6,7,8,9,12,10,11]]),
 (zks,[[],[16],[]]),
 (zgy,[]),
 (zkr,[[5],[5,13],[5],[5]]),
 (zqm,[[3],[3,9],[3],[3],[3,18],[3],[3]]),
 (zlk,[]),
 (zmD,[]),
 (zkp,[]),
 (zcT,[[],[8],[]]),
 (zcA,[[],[0,1,2,3,4,5,6,7,8,9,10,11,12]]),
 (zbD,[[0,1,2,3,4,5,6,7,8,9,10],[0,1,2,3,4,5,6,7,8,9]]),
 (zku,[]),
 (zjI,[[],[9,10]]),
 (zjG,[]),
 (zo8,[]),
 (zqr,[]),
 (znv,[]),
 (zkx,[]),
 (zkq,[[0,1,2,3,4,5,6,7,8,9,10,11]]),
 (zeO,[]),
 (zo6,[[4],[4,19],[4]]),
 (zcp,[]),
 (zcJ,[[],[8],[]]),
 (zmC,[]),
 (zqn,[[],[20],[0,1,2,3,4,5,6,7,8,9,10,11,12,13,14]]),
 (zqk,[[],[],[0,1,2,3,4,5,6,7,8,9,10,11,12,13,14,15,16,17,18,19],[],[],[0,1,2,3,4,5,6,7],[],[],[0,1,2,3,4,5,6,7],[],[0,1,2,3,4,5,6,7,8,9,10,11,12,13,14,15],[0,1,2,3,4,5,6,7,8,9,10,11]]),
 (zo4,[]),
 (zcE,[]),
 (zcS,[[],[8],[]]),
 (znq,[]),
 (zqi,[[2],[2],[2,78],[2],[0,1,2,3,5,6,7,4,8,9],[2],[2,98],[2],[0,1,2,3,5,6,4,7,8,9],[2],[2,136],[2],[0,2,3,4,5,1,6,7,8],[2],[0,1,2,4,5,6,3,7,8,9],[2],[2,33],[2],[0,1,2,4,5,6,3,7,8,9],[0,1,2,3,4,5,6,7,8]]),
 (zrq,[[0],[0,7],[0]]),
 (znp,[[0],[0,11],[0],[0],[0,40],[0]]),
 (zql,[[],[0,1,2,3,4,5,6,7,8]]),
 (zjD,[[0,2],[0,2],[0,2]]),
 (zkt,[[0,1,2,3,4,5,6,7,8,9,10,11],[12],[12,35],[12],[]]),
 (znr,[[5,6],[5,6,11],[5,6],[5],[6]]),
 (zln,[]),
 (zru,[]),
 (zjH,[[]]),
 (zcL,[]),
 (zfZ,[[],[5],[],[6],[],[0,1,2,3,4,5,6,7,8,9,10,11],[0,1,2,3,4,5,6,7,8,9,10,11,14,15,17,18,12,16,19,13,20,21,22],[]]),
 (zdi,[[3],[3,8],[3]]),
 (zdD,[[0,1,2,3,4,5,6,7,8,9,10,11,12]]),
 (zfz,[[6],[1,6],[1,6]]),
 (zeA,[[8,9],[9]]),
 (zby,[[],[16],[]]),
 (zeb,[[0,1,2,3,4,5,6,7,8,9]]),
 (zdy,[]),
 (zcO,[[6],[6,16],[6]]),
 (zf4,[]),
 (zg5,[]),
 (zjB,[]),
 (zg4,[]),
 (zaZ,[[],[8],[]]),
 (zbt,[[0,1,2,3,4,5,6],[],[],[],[],[],[],[],[0,1,2,3,4,5,6,7,8,9,10,11],[],[],[],[0,1,2,3,4,5,6],[],[]]),
 (zdc,[]),
 (zaV,[]),
 (zcr,[]),
 (ziX,[[6],[6,20],[6],[0,1,2,3,4,5,6,7,8,9,10,11,12,13,14,15,16,17,18,19,20,21,22,23],[]]),
 (zfE,[[0,1,2,3,4,5,6,7,8,9,10,11]]),
 (zdp,[[],[],[89],[],[0,1,2,5,3,6,4,7,8,9,10,11,12],[],[],[72],[],[0,1,2,3,4,5,6,7,8,9],[],[57],[],[0,1,2,3,4,5,6,7,8,9],[],[35],[],[0,1,2,3,4,5,6,7],[],[19],[],[0,1,2,3,4,5,6,7,8,9]]),
 (zfR,[[3],[3],[3],[],[],[],[],[0,1,2,3,4,5,6,7,8,9,10,11,12,13,14,15,16]]),
 (zdb,[[]]),
 (zda,[[7],[7,9],[7]]),
 (zhF,[[3],[3],[3]]),
 (ziW,[]),
 (zh6,[]),
 (zo9,[[0,1,2,3,4,5,6]]),
 (zkw,[[3],[3,9],[3]]),
 (ziD,[[],[71],[],[3]]),
 (zlo,[]),
 (zjK,[]),
 (zeL,[]),
 (zfy,[[],[8],[]]),
 (zlp,[[],[12],[]]),
 (znt,[[]]),
 (zlu,[]),
 (zgB,[]),
 (zmE,[]),
 (zbM,[]),
 (zbW,[[],[8],[]]),
 (zh5,[]),
 (zf5,[]),
 (zlq,[[0,1,3,4,6,7,2,5,8,9,10,11,12,13,14]]),
 (zg3,[]),
 (ze5,[[3],[3,4],[3]]),
 (zg6,[]),
 (zeh,[]),
 (zeU,[[],[8],[]]),
 (zcW,[[],[61],[],[],[],[],[0,1,2,3,4,5,6,7,8,9,10,11],[],[0,1,2,3,4,5,6,7],[0,1,2,3,4,5,6,7,8,9,10,11,12,13,14,15,16,17,18,19,20,21,23,24,22,25],[0,1,2,3,4,5,6,7,8,9,10,11,12,13],[],[],[0,1,2,3,4,5,6,7,8,9,10,11],[0,1,2,3,4,5,6,7,8]]),
 (zg7,[[6],[6,7],[6],[6]]),
 (zeW,[]),
 (zer,[[],[2,3],[],[0,1,2,3,4,5,6,7,8,9,10,11,12,13,14,15]]),
 (zf3,[[0,1,2,3,4,5,6,7,8,9,10,11],[0,1,2,3,4,5,6,8,7],[0,1,2,3,4,5,6,7,8,9,10,11,15,16,12,13,14,17,18,19],[],[0,1,2,3,4,5,6,7,8,9,10]]),
 (zqh,[[4],[4],[4],[4,27],[4],[0,1,2,4,5,3,6,7],[0,2,3,4,1,5,6]]),
 (zrp,[[]]),
 (zo3,[]),
 (znn,[]),
 (zdh,[]),
 (zqg,[[4],[3],[3],[0,1,2,3,4,5,6,7,8,9]]),
 (ztF,[[0],[0,7],[0]]),
 (zmB,[[3],[3],[3],[3],[3,9],[3],[3]]),
 (znu,[[]]),
 (zqq,[]),
 (zns,[]),
 (zg2,[[],[13],[],[0,1,2,3,4,5,6,7,8]]),
 (ziU,[[],[0,1,2,3,4,5,6,7,8,9,10,11,12,13],[]]),
 (ztI,[[0,1,2,3,4,5,6],[]]),
 (zjE,[]),
 (zo1,[[],[0,1,2,3,4,8,5,6,7,9,10,11]]),
 (zo0,[]),
 (zlm,[[],[0,1,2,3,4,5,6,7,8,9,10,11,12,13],[0,1,2,3,4,5,6,7,8,9,10,11,12,13,14],[0,1,2,3,4,5,6,7,8,9,10,11,12,13,14,15]]),
 (zqp,[[10,13],[10,11,12,13,23],[10,11,12,13],[10,11,12,13]]),
 (zls,[[4,5,6],[4,5,6,25],[4,5,6],[4,5,6],[0,1,2,3,4,5,6,7,8,9,10]]),
 (ztH,[]),
 (zrs,[[],[11],[]]),
 (zro,[[],[],[0,1,2,3,4,5,6,7,8,9],[9]]),
 (zlr,[[]]),
 (ztG,[[0,1,2,3,4,5,6,7]]),
 (zo2,[[],[19],[],[0,1,2,3,4,5,6,7,8,9,10,11,12],[0,1,3,4,6,7,2,5,8,9,10,11,12,13,14]]),
 (zeV,[]),
 (zes,[]),
 (zll,[[],[0,1,2,3,4,5,6,7,8,9,10,11,12,13],[]]),
 (zdg,[[0,1,2,3,4,5,6,7]]),
 (zaO,[[],[7],[7],[7],[7],[],[7]]),
 (zfj,[[],[0,2,3,1,4,5],[0,1,2,3,4,5,6,7,8,9,10,11,12,14,16,13,15,17,18,19,20]]),
 (zbI,[[0,1,2,3,4,5,6,7,8,9,10,11,12,13]]),
 (zc8,[[]]),
 (zio,[[],[27],[23],[13],[8],[8]]),
 (zbE,[]),
 (zd9,[[],[9],[]]),
 (zc9,[]),
 (zbw,[[]]),
 (zea,[[4],[4,31],[4]]),
 (zdm,[[0,1,2,3,4,5,6,7,8,9,11,10,12,13],[12],[12,48],[12],[12],[0,1,2,3,4,5,6,7,8,9,10,11,14,15,12,13,16,17],[0,1,2,3,4,5,6]]),
 (zf0,[[0,1,2,3,4,5,6,8,7,9,10],[0,1,2,3,4,5],[]]),
 (zfd,[]),
 (zbC,[[],[8],[]]),
 (zfh,[[0,1,2,3,4,5,6],[]]),
 (zd8,[]),
 (zdz,[]),
 (zc7,[]),
 (zcc,[[],[16],[],[],[0,1,2,3,4,5,6,7,8,9,10]]),
 (zbU,[[11],[11],[0,1,2,3,4,5,6,7,8,9,10,11,12,14,15,16,13,17],[11],[0,1,2,3,4,5,6,7,8,9,10,11,12,13,14,16,17,18,15,19],[11],[0,1,2,3,4,5,6,7,8],[0,1,2,3,4,5,6,7,8,9],[11],[],[0,1,2,3,4,5,6,7,8,9,10,13,14,15,11,12,16,17],[0,1,2,3,4,5,6,7,8,9,10,11,12,13,14,15]]),
 (zff,[]),
 (zeB,[[0,1,2,3,5,4,6,7,8,10,11,9,12]]),
 (zfe,[[]]),
 (zfc,[]),
 (zeC,[[]]),
 (zcz,[[],[88],[],[0,1,2,3,4,6,7,8,9,10,5,11,12,13],[],[41],[],[],[45],[],[0,1,2,3,4,5,6,7,8,9,11,12,13,10,14,15],[6],[6,18],[6],[6]]),
 (zbp,[]),
 (zkQ,[]),
 (znm,[]),
 (zdl,[[],[0,1,2,3,4,5,6,7,8],[0,1,2,3,4,5,6,7,8,9,10,11,12,13,14,15,16,17,18,19,20,21,22,23,24,25,26]]),
 (zgz,[[9],[0,1,2,3,4,5,6,7,8,9,10,11,12,13,14,15,16,17,18,19,20,21,22,23,24],[0,1,2,3,4,5,6,7,8,9],[0,1,2,3,4,5,6,7,8,9],[],[0,1,2,3,4,5,6,7,8,9,10]]),
 (zkv,[]),
 (ziV,[]),
 (zd7,[[],[8],[]]),
 (zeK,[[0,1,2,3,4,5,6,7]]),
 (zrt,[]),
 (zrr,[]),
 (zjF,[]),
 (zho,[[0,1,2,3,4,5,6,7,8,9,10,11,12,13,14,15,16,17,18],[],[0,1,2,3,4,5,6,7,8,9,10,11,12,13,14,15,16],[0,1,2,3,4,5,6,7,8,9,10]]),
 (zf1,[]),
 (zf2,[[0,1,2,3,4,5,6],[]]),
 (zgA,[[],[15],[],[0,1,2,3,4,5,6,7,8,9,10,11,13,14,15,12]]),
 (zqo,[[11],[11,71],[11],[11],[],[26],[],[],[0,1,2,3,4,5,6,7]]),
 (zo7,[]),
 (zci,[[7],[7,11],[7]]),
 (zbx,[]),
 (za2,[]),
 (zdk,[]),
 (zcm,[]),
 (zay,[]),
 (zbO,[[0,1,2,3,4,6,7,5,8,9,10]]),
 (zas,[[],[139],[4]]),
 (zaI,[[],[20],[17],[10],[6],[6]]),
 (zaL,[]),
 (zaq,[[],[5],[]]),
 (zbN,[[],[3],[]]),
 (zaD,[[7],[7,8],[7]]),
 (zcB,[]),
 (zck,[]),
 (zcn,[]),
 (za0,[[0,1,2,3,4,5,6,7,8,9,10,11,12,13,14,15,16]]),
 (zbr,[[],[0,1,2,3,4,5,6,7,8,9,10,11,12,14,16,13,15,17,18,19,20]]),
 (zaM,[[0,1,2,3,4,5,6,7,8,9,10,11,12,13]]),
 (ziT,[]),
 (zeX,[[4],[4,5],[4,5],[0,1,2,3,4,5,6,7,8,9,10,11,12,13,14,15,16,17,18,19,20,21,22,24,25,23,26]]),
 (zaA,[[7],[7,8],[7]]),
 (zhC,[[],[13],[],[0,1,2,3,4,5,6,7,8,9],[],[],[10],[],[0,1,2,3,6,7,8,4,9,5,10,11,12,13,14,15],[],[11],[],[0,1,2,3,6,7,8,9,10,4,5,11,12,13,14,15]]),
 (zhD,[]),
 (zha,[[],[10],[],[0,1,2,3,6,7,8,9,10,11,12,13,16,17,18,21,22,23,26,27,28,31,32,33,4,14,19,24,29,34,5,15,20,25,30,35,36,37,38,39,40],[],[8]]),
 (zb0,[[11],[6],[0,1,2,3,4,5,6,7,8,9,10,11,12,13,14],[],[7],[],[0,1,2,3,4,5,6,7,8,9,10,11],[0,1,2,3,4,5,6,7,8,9,12,15,10,13,16,11,14,17,18,19,20]]),
 (zbb,[[6],[6,7],[6,7],[8,9,10],[0,1,2,3,4,5,6,7,8,9,10,11,12,13,14,15,16,17],[9]]),
 (zbc,[[3],[3,4],[3]]),
 (zfB,[[],[7,8],[7],[],[18],[],[0,1,2,3,4,5,6,7,8,9,10,11,12,13,14,15,16,17,18,19,20],[10],[10,11],[10]]),
 (zfP,[[],[20],[],[],[0,1,2,3,4,5,6,7,8,9,10,11,12],[],[],[15],[],[],[12],[]]),
 (zh4,[]),
 (zfQ,[[],[11],[],[],[7],[]]),
 (zfi,[[],[21],[],[],[26],[],[24,25],[14,18],[14,18,19],[14,18],[14,18],[],[15],[],[],[],[13],[],[],[10],[]]),
 (zbk,[[],[],[],[13],[],[],[16],[],[],[10],[]]),
 (zbj,[[]]),
 (zhB,[[],[10],[],[],[],[8],[],[9],[9],[9],[],[7],[],[],[0,1,2,3,4,5,6,7,8],[]]),
 (zh2,[]),
 (ziS,[]),
 (zhA,[]),
 (zh3,[[],[7],[],[0,1,2,3,4,5,6,7,8,9,10,11,12,13,14],[0,1,2,3,4,5,6,7,8,9,10,11,12,13,17,18,14,15,16,19,20,21,22],[6],[],[4],[],[0,1,2,3,4,5,6,7,8,9,10,11,12]]),
 (zh1,[[]]),
 (zg9,[[],[9],[]]),
 (ziy,[[3],[3,4],[3]]),
 (zh0,[]),
 (zgj,[[],[5],[],[0,1,2,3,4,5,6,7,8]]),
 (ziz,[]),
 (zfA,[[],[7],[]]),
 (zeY,[[],[4],[],[]]),
 (zg8,[[],[14],[],[],[],[12],[],[],[13],[],[],[11],[],[0,1,2,3,4,5,6,7,8,9,10],[],[9],[],[],[10],[],[],[7],[],[],[8],[],[],[5],[],[6],[0,1,2,3,4,5,6,7,8,9,10,11,12]]),
 (zeZ,[]),
 (zhE,[[4],[4,5],[4]]),
 (zb1,[[4],[0,1,2,3,5,6,7,4,8,9,10],[4],[6],[6],[6],[6],[6,7],[6],[6],[4],[4,5],[4],[0,1,2,6,7,8,12,13,14,17,18,21,22,3,9,19,4,5,10,11,15,16,20,23,24,25,26]]),
 (zcg,[[],[3],[]]),
 (zbv,[])]
def hintOf:List (Nat×List (List Nat))→FuncId→List (List Nat)
 | [],_=>[]
 | (g,h)::l,f=>if g=f then h else hintOf l f
noncomputable def T:FuncId→Option Fn':=table Tryz.prog (hintOf hintRows)
noncomputable def irOf(f:FuncId):Fn':=(T f).getD ⟨0,[],.bad⟩
theorem sound:ziA Tryz.prog (sem T):=sem_ok _ _
end Go.Ax
/- Ep10 -/
namespace Go.Ax.SU
open Go.Ax Go.Proofs
theorem hT:∀f ir,T f=some ir→ir.body.still=true:=λf ir h=>zqZ h
def pkB:List Nat:=[144,96,0,1,0,0,0,0,0,0,0,77,190,222,0,2,21,192,0,1,128,0,224,0,0]
def pkA:List V:=[.int .u32 77,.int .u16 1,.int .u16 1,.bool true,.int .u8 0,.nils]
def isC (r:Option (V×Cc.Heap)) (cells:List V) (n:Nat):Bool:=match r with|some (v,c)=>zrF 1 c v cells n|none=>false
theorem pk_run:isC (Cc.cd T 40 zbj pkA ⟨.e,0⟩) (pkB.map by8) 25=true:=by kernel_rfl
theorem pk_ok{H:Heap}(hc:H.Cl):Ok (sem T zbj pkA) H λr H'=>Lc 1 H.next H' r (pkB.map by8) 25∧Grow H H'∧H'.Cl:=by
 have h:=pk_run;cases hr:Cc.cd T 40 zbj pkA ⟨.e,0⟩with
 | none=>rw[hr]at h; cases h
 | some q =>
  obtain⟨v,c⟩:=q;rw[hr]at h;refine zaw (zrL hT hr rfl hc) ?_;rintro _ H' ⟨rfl,rfl,s,cl⟩;exact⟨zt0 h (by rfl),s,cl⟩
def isV (r:Option (V×Cc.Heap)) (w:V):Bool:=match r with|some (v,_)=>Cc.same1 v w|none=>false
theorem isV_ok{f:FuncId}{args:List V}{n:Nat}{w:V} (h:isV (Cc.cd T n f args ⟨.e,0⟩) w=true) (ha:V.stills args=true) {H:Heap} (hc:H.Cl):Ok (sem T f args) H λr H'=>r=sh H.next w∧Grow H H'∧H'.Cl:=by
 cases hr:Cc.cd T n f args ⟨.e,0⟩with
 | none=>rw[hr]at h; cases h
 | some q =>
  obtain⟨v,c⟩:=q;rw[hr]at h;have e:=Cc.same1_eq h;subst e;refine zaw (zrL hT hr ha hc) ?_;rintro _ H' ⟨rfl,-,s,cl⟩;exact⟨rfl,s,cl⟩
end Go.Ax.SU
/- Su1 -/
namespace Go.Ax.SU
open Go.Ax
/-! The plain functions. -/
def be(l:List Nat):Nat:=l.foldl (λa b=>a*256+b) 0
theorem be_snoc(l:List Nat)(b:Nat):be (l++[b])=be l*256+b:=by simp[be]
end Go.Ax.SU
/- Su2 -/
namespace Go.Ax.SU
open Go.Ax
def Ok8(l:List Nat):Prop:=∀x∈l,x<256
theorem Ok8.take{l:List Nat}(h:Ok8 l)(n:Nat):Ok8 (l.take n):=λx hx=>h x (List.mem_of_mem_take hx)
theorem Ok8.drop{l:List Nat}(h:Ok8 l)(n:Nat):Ok8 (l.drop n):=λx hx=>h x (List.mem_of_mem_drop hx)
theorem Ok8.getD{l:List Nat}(h:Ok8 l)(i:Nat):l.getD i 0<256:=by
 rw[List.getD_eq_getElem?_getD];cases e:l[i]? with
 | none=>simp
 | some x=>exact h x (List.mem_of_getElem? e)
theorem all8{l:List Nat} (h:(l.all λx=>decide (x<256))=true):Ok8 l:=λx hx=>of_decide_eq_true (List.all_eq_true.1 h x hx)
def num(x n:Nat):List Nat:=(List.range n).map λi=>x/256 ^ (n-1-i)%256
theorem zoR(x n:Nat):(num x n).length=n:=by simp[num]
end Go.Ax.SU
/- Su3 -/
namespace Go.Ax.SU
open Go.Ax
theorem be_lt(l:List Nat)(h:∀x∈l,x<256):be l<256 ^ l.length:=by
 have key:∀(l:List Nat),(∀x∈l,x<256)→∀l':List Nat,l=l'.reverse→be l<256 ^ l.length:=by
  intro l hl l' e;subst e
  induction l' with
  | nil=>simp[be]
  | cons b l' ih =>
   rw[List.reverse_cons,be_snoc,List.length_append,List.length_singleton,Nat.pow_succ];have h1:=ih λx hx=>hl x (by rw[List.reverse_cons]; exact List.mem_append_left _ hx);have h2:=hl b (by simp);omega
 exact key l h l.reverse (by simp)
theorem or256(a b:Nat)(h:b<256):a*256 ||| b=a*256+b:=by
 have:=Nat.shiftLeft_add_eq_or_of_lt (i:=8) (b:=b) h a;rw[Nat.shiftLeft_eq]at this;exact this.symm
abbrev By(lo:Nat)(H:Heap)(v:V)(l:List Nat):Prop:=Lc 1 lo H v (l.map by8) l.length
theorem by_at{lo:Nat}{H:Heap}{v:V}{l:List Nat}(h:By lo H v l){i:Int}(h0:0≤i)(h1:i<l.length):∃p,(∀{k:IntKind},Ax.iaddr none 1 v (.int k i)=some p)∧LdR none H p (.int .u8 (l.getD i.toNat 0:Nat))∧p.pid=v.pid:=by
 obtain⟨p,hp,hl⟩:=h.at h0 h1;have hi:i.toNat<l.length:=by omega
 have e:((l.map by8).drop (i.toNat*1)).take 1=[by8 l[i.toNat]]:=by
  rw[Nat.mul_one,←List.map_drop,List.drop_eq_getElem_cons hi]; rfl
 rw[e]at hl;refine⟨p,hp,λf Q=>?_,hl.pid.1⟩;rw[hl.ld0 (by simp)];have hg:l.getD i.toNat 0=l[i.toNat]:=by rw[List.getD_eq_getElem?_getD,List.getElem?_eq_getElem hi]; rfl
 rw[hg]; exact zod
theorem by_slice{lo:Nat}{H:Heap}{v:V}{l:List Nat}(h:By lo H v l){x y:Int}(h0:0≤x)(h1:x≤y)(h2:y≤l.length) :
  ∃v',(∀{k k':IntKind},zaU .sl 1 v (some (.int k x)) (some (.int k' y)) none=some v')∧(x=0→∀{k':IntKind},zaU .sl 1 v none (some (.int k' y)) none=some v')∧(y=l.length→∀{k:IntKind},zaU .sl 1 v (some (.int k x)) none none=some v') ∧
   By lo H v' ((l.drop x.toNat).take (y.toNat-x.toNat))∧v'.pid=v.pid:=by
 obtain⟨v',a,b,c,d,e⟩:=h.slice h0 h1 h2;refine⟨v',a,b,c,?_,e⟩;have hl:((l.drop x.toNat).take (y.toNat-x.toNat)).length=y.toNat-x.toNat:=by rw[List.length_take,List.length_drop]; omega
 have:=d;rw[Nat.mul_one,Nat.mul_one,←List.map_drop,←List.map_take]at this;unfold By;rw[hl]; exact this
theorem getD_lt{l:List Nat}(h:Ok8 l)(i:Nat):l.getD i 0<256:=by
 rw[List.getD_eq_getElem?_getD];cases e:l[i]? with
 | none=>simp
 | some x=>exact h x (List.mem_of_getElem? e)
theorem take_snoc{l:List Nat}{i:Nat}(h:i<l.length):l.take (i+1)=l.take i++[l.getD i 0]:=by
 rw[List.take_add_one,List.getElem?_eq_getElem h,List.getD_eq_getElem?_getD,List.getElem?_eq_getElem h]; rfl
theorem be_take_lt{l:List Nat}(h:Ok8 l){i n:Nat}(hi:i≤n):be (l.take i)<256 ^ n:=by
 have h1:=be_lt _ (h.take i);have h2:256 ^ (l.take i).length≤256 ^ n:=Nat.pow_le_pow_right (by decide) (by rw[List.length_take]; omega);omega
theorem okb_copy{β:Type}{ty e bytes m:Nat}{H:Heap}{y:V}{q:List V}{f:V→M β}{Q:β→Heap→Prop} (hy:acells e H y=some (q,m)) (hp:∀id,y.pid=some id→id<H.next) (hq:q.length=m*e)
  (hb:m*bytes≤140737488355328) (hm:m≤140737488355328)
  (k:∀x' H',App ty e H.next H' x' q m→Grow H H'→Ok (f x') H' Q):Ok ((mappend ty e bytes (.sl H.next 0 0 (.fix 0)) y).bind f) (H.new ⟨ty,[],none⟩) Q:=by
 have ha:App ty e H.next (H.new ⟨ty,[],none⟩) (.sl H.next 0 0 (.fix 0)) [] 0:=.lit (zac _ _) (Nat.le_refl _) (by rw[zaf]; omega);refine zgc ha (by rw[zaf]; omega) (by rw[zm8 λi hi=>zaE _ _ (by have:=hp i hi; omega)]; exact hy) hq (by simpa using hb) (by omega) λx' H' h hs=>?_;refine k x' H' (by simpa using h) ⟨by have:=hs.next; rw[zaf]at this; omega,λi hi=>?_⟩;rw[hs.same i (by rw[zaf]; omega) (by simp[V.pid]; omega),zaE _ _ (by omega)]
theorem App.keep{ty e lo n:Nat}{H H':Heap}{v:V}{cells:List V}(h:App ty e lo H v cells n)(k:Keep lo H H'):App ty e lo H' v cells n:=by
 cases h with
 | opn h ho=>exact .opn (h.to λi hi=>k.same i (ho i hi).1 (ho i hi).2) λi hi=>⟨(ho i hi).1,Nat.lt_of_lt_of_le (ho i hi).2 k.next⟩
 | lit h h0 h1=>exact .lit (by rw[k.same _ h0 h1,h]) h0 (Nat.lt_of_lt_of_le h1 k.next)
inductive Apf (ty e lo:Nat) (H:Heap):V→List V→Nat→Prop
 | app {v:V} {cells:List V} {n:Nat} (h:App ty e lo H v cells n):Apf ty e lo H v cells n
 | full {id n:Nat} {cells:List V} (h:H.get id=some ⟨ty,cells,none⟩) (hl:cells.length=n*e) (h0:lo≤id) (h1:id<H.next):Apf ty e lo H (.sl id 0 n (.fix n)) cells n
theorem Apf.lc{ty e lo n:Nat}{H:Heap}{v:V}{cells:List V}(h:Apf ty e lo H v cells n):Lc e lo H v cells n:=by
 cases h with
 | app h=>exact h.lc
 | full h hl h0 h1 =>
  refine⟨?_,λid hi=>by simp only[V.pid,Option.some.injEq]at hi; subst hi; exact⟨h0,h1⟩,Nat.le_refl _⟩;simp only[rcells,h,Option.bind_some];rw[if_pos (by omega),List.drop_zero,List.take_of_length_le (by omega)]
theorem Apf.keep{ty e lo n:Nat}{H H':Heap}{v:V}{cells:List V}(h:Apf ty e lo H v cells n)(k:Keep lo H H'):Apf ty e lo H' v cells n:=by
 cases h with
 | app h=>exact .app (App.keep h k)
 | full h hl h0 h1=>exact .full (by rw[k.same _ h0 h1,h]) hl h0 (Nat.lt_of_lt_of_le h1 k.next)
structure Bel (lo:Nat) (H H':Heap):Prop where
 next:H.next≤H'.next
 same:∀i,i<lo→H'.get i=H.get i
theorem Bel.refl(lo:Nat)(H:Heap):Bel lo H H:=⟨Nat.le_refl _,λ_ _=>rfl⟩
theorem Bel.trans{lo:Nat}{H H1 H2:Heap}(h:Bel lo H H1)(k:Bel lo H1 H2):Bel lo H H2:=⟨Nat.le_trans h.next k.next,λi hi=>by rw[k.same i hi,h.same i hi]⟩
theorem _root_.Go.Ax.Grow.bel{H H':Heap}(h:Grow H H'){lo:Nat}(hl:lo≤H.next):Bel lo H H':=⟨h.next,λi hi=>h.same i (by omega)⟩
theorem Bel.grow{H H':Heap}(h:Bel H.next H H'):Grow H H':=⟨h.next,λi hi=>h.same i hi⟩
theorem _root_.Go.Ax.Grow.bel'{H0 H H':Heap}{lo:Nat}(h0:Grow H0 H)(hl:H0.next≤lo)(h:Bel lo H H'):Grow H0 H':=⟨Nat.le_trans h0.next h.next,λi hi=>by rw[h.same i (by omega),h0.same i hi]⟩
theorem okb_apf{β:Type}{ty e bytes lo n m:Nat}{H:Heap}{x y:V}{cells q:List V}{f:V→M β}{Q:β→Heap→Prop}(hx:Apf ty e lo H x cells n)(hlo:lo≤H.next) (hy:acells e H y=some (q,m)) (hq:q.length=m*e)
  (hb:(n+m)*bytes≤140737488355328) (hm:n+m≤140737488355328)
  (k:∀x' H',Apf ty e lo H' x' (cells++q) (n+m)→Bel lo H H'→Step H H' x.pid.toList x'.pid.toList→Ok (f x') H' Q):Ok ((mappend ty e bytes x y).bind f) H Q:=by
 cases hx with
 | app h =>
  refine zgc h hlo hy hq hb hm λx' H' h1 hs=>k x' H' (.app h1) ⟨hs.next,λi hi=>hs.same i (by omega) λe=>?_⟩ hs;have:=(h.lc.own i (by simpa [zb7]using e)).1;omega
 | full h hl h0 h1 =>
  rename_i id;have hml:n+m≤maxLen:=Nat.le_trans hm zgL;by_cases hz:m=0
  ·subst hz;have hq0:q=[]:=List.eq_nil_of_length_eq_zero (by omega);subst hq0;refine zao ⟨.sl id 0 n (.fix n),H.set id (some ⟨ty,cells,none⟩),?_,k _ _ ?_ ⟨by rw[zbg]; exact Nat.le_refl _,λi hi=>zap _ _ (by omega)⟩ (Step.set _ (by simp[V.pid]))⟩
   ·simp only[mappend,hy,Option.bind_some,mappendq,h];rw[if_pos ⟨by omega,trivial⟩];simp only[Nat.add_zero,Nat.le_refl,if_true];rw[if_pos (by omega)];simp[splice]
   ·rw[List.append_nil];exact .full (zan _ _ _) hl h0 h1
  ·refine zao ⟨.sl H.next 0 (n+m) (.opn e),H.new ⟨ty,cells++q,some e⟩,?_,?_⟩
   ·simp only[mappend,hy,Option.bind_some,mappendq,h];rw[if_pos ⟨by omega,trivial⟩,if_neg (by omega),if_pos ⟨hb,hml⟩,List.drop_zero,List.take_of_length_le (by omega)]
   ·refine k _ _ (.app (.opn (.inr ⟨H.next,rfl,zac _ _,by simp[hl,hq,Nat.add_mul]⟩) λi hi=>?_)) ⟨by rw[zaf]; omega,λi hi=>zaE _ _ (by omega)⟩ ⟨by rw[zaf]; omega,λi hi _=>zaE _ _ (by omega),λi hi=>.inr (by simp only[V.pid,Option.toList_some,List.mem_singleton]at hi; subst hi; exact⟨Nat.le_refl _,by rw[zaf]; omega⟩)⟩;simp only[V.pid,Option.some.injEq]at hi;subst hi;exact⟨hlo,by rw[zaf]; omega⟩
def bn(k n:Nat):List Nat:=(List.range k).map λi=>n/256 ^ (k-1-i)%256
theorem bn_len(k n:Nat):(bn k n).length=k:=by simp[bn]
theorem bn_get(k n i:Nat)(h:i<k):(bn k n).getD i 0=n/256 ^ (k-1-i)%256:=by
 rw[List.getD_eq_getElem?_getD,List.getElem?_eq_getElem (by rw[bn_len]; exact h)]; simp[bn]
abbrev Ab(lo:Nat)(H:Heap)(v:V)(l:List Nat):Prop:=Apf zak 1 lo H v (l.map by8) l.length
theorem Ab.by{lo:Nat}{H:Heap}{v:V}{l:List Nat}(h:Ab lo H v l):By lo H v l:=h.lc
theorem okb_ab'{β:Type}{lo:Nat}{H:Heap}{x y:V}{l m:List Nat}{f:V→M β}{Q:β→Heap→Prop}(hx:Ab lo H x l)(hlo:lo≤H.next) (hy:acells 1 H y=some (m.map by8,m.length)) (hm:l.length+m.length≤1099511627776)
  (k:∀x' H',Ab lo H' x' (l++m)→Bel lo H H'→Step H H' x.pid.toList x'.pid.toList→Ok (f x') H' Q):Ok ((mappend zak 1 1 x y).bind f) H Q:=by
 refine okb_apf hx hlo hy (by simp) (by omega) (by omega) λx' H' h1 h2=>k x' H' ?_ h2;show Apf zak 1 lo H' x' ((l++m).map by8) (l++m).length;rw[List.map_append,List.length_append]; exact h1
theorem okb_ab{β:Type}{lo:Nat}{H:Heap}{x y:V}{l m:List Nat}{f:V→M β}{Q:β→Heap→Prop}(hx:Ab lo H x l)(hlo:lo≤H.next) (hy:acells 1 H y=some (m.map by8,m.length)) (hm:l.length+m.length≤1099511627776)
  (k:∀x' H',Ab lo H' x' (l++m)→Bel lo H H'→Ok (f x') H' Q):Ok ((mappend zak 1 1 x y).bind f) H Q :=
 okb_ab' hx hlo hy hm λx' H' h1 h2 _=>k x' H' h1 h2
end Go.Ax.SU
/- Su5 -/
namespace Go.Ax.SU
open Go.Ax
def psz(x:Nat):Nat:=if x<8 then 0 else x-7
def pnum(x:Nat)(b:List Nat):Nat:=if x<8 then x else be b
def zl8(x:Nat)(b:List Nat):Bool:=if x<8 then true else (b.getD 0 0 != 0)&&decide (8≤be b)
inductive PH
 | err (e:Nat)
 | ok (kid ctr n:Nat)
def parse(b:List Nat):PH :=
 if b.length=0 then .err 3
 else
  let k:=b.getD 0 0/16
  let c:=b.getD 0 0%16
  let at':=1+psz k
  let en:=at'+psz c
  if b.length<en then .err 3
  else
   let x:=(b.take at').drop 1
   let y:=(b.take en).drop at'
   if zl8 k x&&zl8 c y then .ok (pnum k x) (pnum c y) en else .err 2
end Go.Ax.SU
/- Ax26 -/
namespace Go.Ax
section
variable {b w:Bool} {v x y:V} {α β:Type} {H:Heap} {f:V→M β} {Q:β→Heap→Prop}
end
theorem zcG{α β:Type}{x:M α}{H:Heap}{f:α→M β}{Q:β→Heap→Prop}:@OkB α β x H ⟨f⟩ ⟨Q⟩=Ok (x.bind f) H Q:=rfl
end Go.Ax
/- FnS1 -/
namespace Go.Ax
open Go.Proofs
def uL(o:Option V)(f:V→M Res):M Res:=(M.lift o).bind f
def uM(p:V)(f:V→M Res):M Res:=(mload none p).bind f
def uS(n:Nat)(p:V)(f:V→M Res):M Res:=(mload (some n) p).bind f
def uT(n:Nat)(p v:V)(f:V→M Res):M Res:=(mstore n p v).bind f
def uF(k:Nat)(p:V)(f:V→M Res):M Res:=(M.lift (Ax.faddr k p)).bind f
def uFM(k:Nat)(p:V)(f:V→M Res):M Res:=(M.lift (Ax.faddr k p)).bind λa=>(mload none a).bind f
def uNFM(k:Nat)(p:V)(f:V→M Res):M Res:=(M.lift (Ax.nilck p)).bind λa=>(M.lift (Ax.faddr k a)).bind λb=>(mload none b).bind f
def uNF(k:Nat)(p:V)(f:V→M Res):M Res:=(M.lift (Ax.nilck p)).bind λa=>(M.lift (Ax.faddr k a)).bind f
def uE(k:Nat)(p:V)(f:V→M Res):M Res:=(M.lift (Ax.ext k p)).bind f
def uN(p:V)(f:V→M Res):M Res:=(M.lift (Ax.nilck p)).bind f
def uB(b:BinOp)(x y:V)(f:V→M Res):M Res:=(M.lift (Ax.bin b x y)).bind f
def uI(n:Option Nat)(e:Nat)(p i:V)(f:V→M Res):M Res:=(M.lift (Ax.iaddr n e p i)).bind f
def uIM(n:Option Nat)(e:Nat)(p i:V)(f:V→M Res):M Res:=(M.lift (Ax.iaddr n e p i)).bind λa=>(mload none a).bind f
def uG(c:V)(b:Bool)(x:M V)(f:V→M Res):M Res:=(guarded [(0,c)] (some (0,b)) x).bind f
def uH(c:V)(b:Bool)(o:Option V)(f:V→M Res):M Res:=(guarded [(0,c)] (some (0,b)) (M.lift o)).bind f
def uO(t:TypeId)(x:V)(f:V→M Res):M Res:=(mbox t x).bind f
def uU(p:V)(h k:Heap)(f:Unit→M Res):M Res:=(M.unch p h k).bind f
def uc(n:Int):V:=.int .i64 n
def ub(n:Int):V:=.int .u8 n
def uq(n:Int):V:=.int .u64 n
def ug(L:List V)(n:Nat):V:=L.getD n .undef
abbrev OkT(f:FuncId)(us:List V)(x:M Res):Prop:=∀{H:Heap} {Q:V→Heap→Prop},Ok x H (λr H'=>∃L,r = .ret L∧Q (zc4 L) H')→Ok (sem T f us) H Q
theorem okT{f:FuncId}{us:List V}{x:M Res} (hT:T f=some (irOf f)) (hl:Nat.ble us.length (irOf f).ntmps=true) (hx:execK (sem T) (irOf f).rv (irOf f).body [] [] (params 0 us)=x):OkT f us x:=λh=>ok_sem hT (Nat.le_of_ble_eq_true hl) hx h
def zh9(G:Sem')(t1 t0:V)(L:List V):M Res :=
 uB .lss (ug L 0) (uc 64) λt7 =>
 M.ite t7
 (M.blk 1 (
 uNF 1470 t1 λt13 =>
 (G zcq [(uc 32)]).bind λt11 =>
 uI (some 64) 1 t13 (ug L 0) λt14 =>
 uT 1 t14 t11 λ_ =>
 M.pure (.nrm [])) λ_ =>
 uB .add (ug L 0) (uc 1) λt15 =>
 M.pure (.nrm [t15]))
 (M.pure (.ex 0 []))
def zn3(G:Sem'):M Res :=
 let p:=V.int .u32 0
 (G zdj [(uc 11)]).bind λt3 =>
 uL (Ax.build [(V.bool false),(V.bool false),(V.bool false),(V.bool false),(V.bool false),(V.bool false),(V.bool false),(V.bool false),(uc 0),(uc 0),(uc 0),(uc 0),(uc 0),(uc 0),(uc 0),(uc 0),(uc 0),(V.bool false),(uc 0),(uc 0),(uc 0),(uc 0),(uc 0),(uc 0),(uc 0),(uc 0),(uc 0),(uc 0),(uc 0),(uc 0),(uc 0),(uc 0),(uc 0),(uc 0),(uc 0),(uc 0),(uc 0),(uc 0),(V.bool false),(V.bool false),p,(uc 0),(uc 0),(uc 0),V.nils,(uc 0),V.nils,V.nils,p,V.nils,(V.bool false),p,(uc 0),(uc 0),(uc 0),V.nils,(uc 0),V.nils,V.nils,p,V.nils,(V.bool false),p,(uc 0),(uc 0),(uc 0),V.nils,(uc 0),V.nils,V.nils,p,V.nils,(V.bool false),p,(uc 0),(uc 0),(uc 0),V.nils,(uc 0),V.nils,V.nils,p,V.nils,(V.bool false),p,(uc 0),(uc 0),(uc 0),V.nils,(uc 0),V.nils,V.nils,p,V.nils,(V.bool false),p,(uc 0),(uc 0),(uc 0),V.nils,(uc 0),V.nils,V.nils,p,V.nils,(V.bool false),p,(uc 0),(uc 0),(uc 0),V.nils,(uc 0),V.nils,V.nils,p,V.nils,(V.bool false),p,(uc 0),(uc 0),(uc 0),V.nils,(uc 0),V.nils,V.nils,p,V.nils,(V.bool false),p,(uc 0),(uc 0),(uc 0),V.nils,(uc 0),V.nils,V.nils,p,V.nils,(V.bool false),p,(uc 0),(uc 0),(uc 0),V.nils,(uc 0),V.nils,V.nils,p,V.nils,(V.bool false),p,(uc 0),(uc 0),(uc 0),V.nils,(uc 0),V.nils,V.nils,p,V.nils,(V.bool false),p,(uc 0),(uc 0),(uc 0),V.nils,(uc 0),V.nils,V.nils,p,V.nils,(V.bool false),p,(uc 0),(uc 0),(uc 0),V.nils,(uc 0),V.nils,V.nils,p,V.nils,(V.bool false),p,(uc 0),(uc 0),(uc 0),V.nils,(uc 0),V.nils,V.nils,p,V.nils,(V.bool false),p,(uc 0),(uc 0),(uc 0),V.nils,(uc 0),V.nils,V.nils,p,V.nils,(V.bool false),p,(uc 0),(uc 0),(uc 0),V.nils,(uc 0),V.nils,V.nils,p,V.nils,(V.bool false),p,(uc 0),(uc 0),(uc 0),V.nils,(uc 0),V.nils,V.nils,p,V.nils,(V.bool false),p,(uc 0),(uc 0),(uc 0),V.nils,(uc 0),V.nils,V.nils,p,V.nils,(V.bool false),p,(uc 0),(uc 0),(uc 0),V.nils,(uc 0),V.nils,V.nils,p,V.nils,(V.bool false),p,(uc 0),(uc 0),(uc 0),V.nils,(uc 0),V.nils,V.nils,p,V.nils,(V.bool false),p,(uc 0),(uc 0),(uc 0),V.nils,(uc 0),V.nils,V.nils,p,V.nils,(V.bool false),p,(uc 0),(uc 0),(uc 0),V.nils,(uc 0),V.nils,V.nils,p,V.nils,(V.bool false),p,(uc 0),(uc 0),(uc 0),V.nils,(uc 0),V.nils,V.nils,p,V.nils,(V.bool false),p,(uc 0),(uc 0),(uc 0),V.nils,(uc 0),V.nils,V.nils,p,V.nils,V.nilp,V.nilp,V.nilp,V.nilp,V.nilp,V.nilp,V.nilp,V.nilp,V.nilp,V.nilp,V.nilp,V.nilp,V.nilp,V.nilp,V.nilp,V.nilp,V.nilp,V.nilp,V.nilp,V.nilp,V.nilp,V.nilp,V.nilp,V.nilp,V.nilp,V.nilp,V.nilp,V.nilp,V.nilp,V.nilp,V.nilp,V.nilp,V.nilp,V.nilp,V.nilp,V.nilp,V.nilp,V.nilp,V.nilp,V.nilp,V.nilp,V.nilp,V.nilp,V.nilp,V.nilp,V.nilp,V.nilp,V.nilp,V.nilp,V.nilp,V.nilp,V.nilp,V.nilp,V.nilp,V.nilp,V.nilp,V.nilp,V.nilp,V.nilp,V.nilp,V.nilp,V.nilp,V.nilp,V.nilp,(V.bool false),(V.bool false),(V.bool false),(V.bool false),(V.bool false),(V.bool false),(V.bool false),(V.bool false),(uc 0),(uc 0),(uc 0),(uc 0),(uc 0),(uc 0),(uc 0),(uc 0),(uc 0),(V.bool false),(uc 0),(uc 0),(uc 0),(uc 0),(uc 0),(uc 0),(uc 0),(uc 0),(uc 0),(uc 0),(uc 0),(uc 0),(uc 0),(uc 0),(uc 0),(uc 0),(uc 0),(uc 0),(uc 0),(uc 0),(V.bool false),(V.bool false),p,(uc 0),(uc 0),(uc 0),V.nils,(uc 0),V.nils,V.nils,p,V.nils,(V.bool false),p,(uc 0),(uc 0),(uc 0),V.nils,(uc 0),V.nils,V.nils,p,V.nils,(V.bool false),p,(uc 0),(uc 0),(uc 0),V.nils,(uc 0),V.nils,V.nils,p,V.nils,(V.bool false),p,(uc 0),(uc 0),(uc 0),V.nils,(uc 0),V.nils,V.nils,p,V.nils,(V.bool false),p,(uc 0),(uc 0),(uc 0),V.nils,(uc 0),V.nils,V.nils,p,V.nils,(V.bool false),p,(uc 0),(uc 0),(uc 0),V.nils,(uc 0),V.nils,V.nils,p,V.nils,(V.bool false),p,(uc 0),(uc 0),(uc 0),V.nils,(uc 0),V.nils,V.nils,p,V.nils,(V.bool false),p,(uc 0),(uc 0),(uc 0),V.nils,(uc 0),V.nils,V.nils,p,V.nils,(V.bool false),p,(uc 0),(uc 0),(uc 0),V.nils,(uc 0),V.nils,V.nils,p,V.nils,(V.bool false),p,(uc 0),(uc 0),(uc 0),V.nils,(uc 0),V.nils,V.nils,p,V.nils,(V.bool false),p,(uc 0),(uc 0),(uc 0),V.nils,(uc 0),V.nils,V.nils,p,V.nils,(V.bool false),p,(uc 0),(uc 0),(uc 0),V.nils,(uc 0),V.nils,V.nils,p,V.nils,(V.bool false),p,(uc 0),(uc 0),(uc 0),V.nils,(uc 0),V.nils,V.nils,p,V.nils,(V.bool false),p,(uc 0),(uc 0),(uc 0),V.nils,(uc 0),V.nils,V.nils,p,V.nils,(V.bool false),p,(uc 0),(uc 0),(uc 0),V.nils,(uc 0),V.nils,V.nils,p,V.nils,(V.bool false),p,(uc 0),(uc 0),(uc 0),V.nils,(uc 0),V.nils,V.nils,p,V.nils,(V.bool false),p,(uc 0),(uc 0),(uc 0),V.nils,(uc 0),V.nils,V.nils,p,V.nils,(V.bool false),p,(uc 0),(uc 0),(uc 0),V.nils,(uc 0),V.nils,V.nils,p,V.nils,(V.bool false),p,(uc 0),(uc 0),(uc 0),V.nils,(uc 0),V.nils,V.nils,p,V.nils,(V.bool false),p,(uc 0),(uc 0),(uc 0),V.nils,(uc 0),V.nils,V.nils,p,V.nils,(V.bool false),p,(uc 0),(uc 0),(uc 0),V.nils,(uc 0),V.nils,V.nils,p,V.nils,(V.bool false),p,(uc 0),(uc 0),(uc 0),V.nils,(uc 0),V.nils,V.nils,p,V.nils,(V.bool false),p,(uc 0),(uc 0),(uc 0),V.nils,(uc 0),V.nils,V.nils,p,V.nils,(V.bool false),p,(uc 0),(uc 0),(uc 0),V.nils,(uc 0),V.nils,V.nils,p,V.nils,V.nilp,V.nilp,V.nilp,V.nilp,V.nilp,V.nilp,V.nilp,V.nilp,V.nilp,V.nilp,V.nilp,V.nilp,V.nilp,V.nilp,V.nilp,V.nilp,V.nilp,V.nilp,V.nilp,V.nilp,V.nilp,V.nilp,V.nilp,V.nilp,V.nilp,V.nilp,V.nilp,V.nilp,V.nilp,V.nilp,V.nilp,V.nilp,V.nilp,V.nilp,V.nilp,V.nilp,V.nilp,V.nilp,V.nilp,V.nilp,V.nilp,V.nilp,V.nilp,V.nilp,V.nilp,V.nilp,V.nilp,V.nilp,V.nilp,V.nilp,V.nilp,V.nilp,V.nilp,V.nilp,V.nilp,V.nilp,V.nilp,V.nilp,V.nilp,V.nilp,V.nilp,V.nilp,V.nilp,V.nilp,(V.bool false),(V.bool false),(V.bool false),(V.bool false),(V.bool false),(V.bool false),(V.bool false),(V.bool false),(uc 0),(uc 0),(uc 0),(uc 0),(uc 0),(uc 0),(uc 0),(uc 0),(uc 0),(V.bool false),(uc 0),(uc 0),(uc 0),(uc 0),(uc 0),(uc 0),(uc 0),(uc 0),(uc 0),(uc 0),(uc 0),(uc 0),(uc 0),(uc 0),(uc 0),(uc 0),(uc 0),(uc 0),(uc 0),(uc 0),(V.bool false),(V.bool false),p,(uc 0),(uc 0),(uc 0),V.nils,(uc 0),V.nils,V.nils,p,V.nils,(V.bool false),p,(uc 0),(uc 0),(uc 0),V.nils,(uc 0),V.nils,V.nils,p,V.nils,(V.bool false),p,(uc 0),(uc 0),(uc 0),V.nils,(uc 0),V.nils,V.nils,p,V.nils,(V.bool false),p,(uc 0),(uc 0),(uc 0),V.nils,(uc 0),V.nils,V.nils,p,V.nils,(V.bool false),p,(uc 0),(uc 0),(uc 0),V.nils,(uc 0),V.nils,V.nils,p,V.nils,(V.bool false),p,(uc 0),(uc 0),(uc 0),V.nils,(uc 0),V.nils,V.nils,p,V.nils,(V.bool false),p,(uc 0),(uc 0),(uc 0),V.nils,(uc 0),V.nils,V.nils,p,V.nils,(V.bool false),p,(uc 0),(uc 0),(uc 0),V.nils,(uc 0),V.nils,V.nils,p,V.nils,(V.bool false),p,(uc 0),(uc 0),(uc 0),V.nils,(uc 0),V.nils,V.nils,p,V.nils,(V.bool false),p,(uc 0),(uc 0),(uc 0),V.nils,(uc 0),V.nils,V.nils,p,V.nils,(V.bool false),p,(uc 0),(uc 0),(uc 0),V.nils,(uc 0),V.nils,V.nils,p,V.nils,(V.bool false),p,(uc 0),(uc 0),(uc 0),V.nils,(uc 0),V.nils,V.nils,p,V.nils,(V.bool false),p,(uc 0),(uc 0),(uc 0),V.nils,(uc 0),V.nils,V.nils,p,V.nils,(V.bool false),p,(uc 0),(uc 0),(uc 0),V.nils,(uc 0),V.nils,V.nils,p,V.nils,(V.bool false),p,(uc 0),(uc 0),(uc 0),V.nils,(uc 0),V.nils,V.nils,p,V.nils,(V.bool false),p,(uc 0),(uc 0),(uc 0),V.nils,(uc 0),V.nils,V.nils,p,V.nils,(V.bool false),p,(uc 0),(uc 0),(uc 0),V.nils,(uc 0),V.nils,V.nils,p,V.nils,(V.bool false),p,(uc 0),(uc 0),(uc 0),V.nils,(uc 0),V.nils,V.nils,p,V.nils,(V.bool false),p,(uc 0),(uc 0),(uc 0),V.nils,(uc 0),V.nils,V.nils,p,V.nils,(V.bool false),p,(uc 0),(uc 0),(uc 0),V.nils,(uc 0),V.nils,V.nils,p,V.nils,(V.bool false),p,(uc 0),(uc 0),(uc 0),V.nils,(uc 0),V.nils,V.nils,p,V.nils,(V.bool false),p,(uc 0),(uc 0),(uc 0),V.nils,(uc 0),V.nils,V.nils,p,V.nils,(V.bool false),p,(uc 0),(uc 0),(uc 0),V.nils,(uc 0),V.nils,V.nils,p,V.nils,(V.bool false),p,(uc 0),(uc 0),(uc 0),V.nils,(uc 0),V.nils,V.nils,p,V.nils,V.nilp,V.nilp,V.nilp,V.nilp,V.nilp,V.nilp,V.nilp,V.nilp,V.nilp,V.nilp,V.nilp,V.nilp,V.nilp,V.nilp,V.nilp,V.nilp,V.nilp,V.nilp,V.nilp,V.nilp,V.nilp,V.nilp,V.nilp,V.nilp,V.nilp,V.nilp,V.nilp,V.nilp,V.nilp,V.nilp,V.nilp,V.nilp,V.nilp,V.nilp,V.nilp,V.nilp,V.nilp,V.nilp,V.nilp,V.nilp,V.nilp,V.nilp,V.nilp,V.nilp,V.nilp,V.nilp,V.nilp,V.nilp,V.nilp,V.nilp,V.nilp,V.nilp,V.nilp,V.nilp,V.nilp,V.nilp,V.nilp,V.nilp,V.nilp,V.nilp,V.nilp,V.nilp,V.nilp,V.nilp,(V.bool false),(V.bool false),(V.bool false),(V.bool false),(V.bool false),(V.bool false),(V.bool false),(V.bool false),(uc 0),(uc 0),(uc 0),(uc 0),(uc 0),(uc 0),(uc 0),(uc 0),(uc 0),(V.bool false),(uc 0),(uc 0),(uc 0),(uc 0),(uc 0),(uc 0),(uc 0),(uc 0),(uc 0),(uc 0),(uc 0),(uc 0),(uc 0),(uc 0),(uc 0),(uc 0),(uc 0),(uc 0),(uc 0),(uc 0),(V.bool false),(V.bool false),p,(uc 0),(uc 0),(uc 0),V.nils,(uc 0),V.nils,V.nils,p,V.nils,(V.bool false),p,(uc 0),(uc 0),(uc 0),V.nils,(uc 0),V.nils,V.nils,p,V.nils,(V.bool false),p,(uc 0),(uc 0),(uc 0),V.nils,(uc 0),V.nils,V.nils,p,V.nils,(V.bool false),p,(uc 0),(uc 0),(uc 0),V.nils,(uc 0),V.nils,V.nils,p,V.nils,(V.bool false),p,(uc 0),(uc 0),(uc 0),V.nils,(uc 0),V.nils,V.nils,p,V.nils,(V.bool false),p,(uc 0),(uc 0),(uc 0),V.nils,(uc 0),V.nils,V.nils,p,V.nils,(V.bool false),p,(uc 0),(uc 0),(uc 0),V.nils,(uc 0),V.nils,V.nils,p,V.nils,(V.bool false),p,(uc 0),(uc 0),(uc 0),V.nils,(uc 0),V.nils,V.nils,p,V.nils,(V.bool false),p,(uc 0),(uc 0),(uc 0),V.nils,(uc 0),V.nils,V.nils,p,V.nils,(V.bool false),p,(uc 0),(uc 0),(uc 0),V.nils,(uc 0),V.nils,V.nils,p,V.nils,(V.bool false),p,(uc 0),(uc 0),(uc 0),V.nils,(uc 0),V.nils,V.nils,p,V.nils,(V.bool false),p,(uc 0),(uc 0),(uc 0),V.nils,(uc 0),V.nils,V.nils,p,V.nils,(V.bool false),p,(uc 0),(uc 0),(uc 0),V.nils,(uc 0),V.nils,V.nils,p,V.nils,(V.bool false),p,(uc 0),(uc 0),(uc 0),V.nils,(uc 0),V.nils,V.nils,p,V.nils,(V.bool false),p,(uc 0),(uc 0),(uc 0),V.nils,(uc 0),V.nils,V.nils,p,V.nils,(V.bool false),p,(uc 0),(uc 0),(uc 0),V.nils,(uc 0),V.nils,V.nils,p,V.nils,(V.bool false),p,(uc 0),(uc 0),(uc 0),V.nils,(uc 0),V.nils,V.nils,p,V.nils,(V.bool false),p,(uc 0),(uc 0),(uc 0),V.nils,(uc 0),V.nils,V.nils,p,V.nils,(V.bool false),p,(uc 0),(uc 0),(uc 0),V.nils,(uc 0),V.nils,V.nils,p,V.nils,(V.bool false),p,(uc 0),(uc 0),(uc 0),V.nils,(uc 0),V.nils,V.nils,p,V.nils,(V.bool false),p,(uc 0),(uc 0),(uc 0),V.nils,(uc 0),V.nils,V.nils,p,V.nils,(V.bool false),p,(uc 0),(uc 0),(uc 0),V.nils,(uc 0),V.nils,V.nils,p,V.nils,(V.bool false),p,(uc 0),(uc 0),(uc 0),V.nils,(uc 0),V.nils,V.nils,p,V.nils,(V.bool false),p,(uc 0),(uc 0),(uc 0),V.nils,(uc 0),V.nils,V.nils,p,V.nils,V.nilp,V.nilp,V.nilp,V.nilp,V.nilp,V.nilp,V.nilp,V.nilp,V.nilp,V.nilp,V.nilp,V.nilp,V.nilp,V.nilp,V.nilp,V.nilp,V.nilp,V.nilp,V.nilp,V.nilp,V.nilp,V.nilp,V.nilp,V.nilp,V.nilp,V.nilp,V.nilp,V.nilp,V.nilp,V.nilp,V.nilp,V.nilp,V.nilp,V.nilp,V.nilp,V.nilp,V.nilp,V.nilp,V.nilp,V.nilp,V.nilp,V.nilp,V.nilp,V.nilp,V.nilp,V.nilp,V.nilp,V.nilp,V.nilp,V.nilp,V.nilp,V.nilp,V.nilp,V.nilp,V.nilp,V.nilp,V.nilp,V.nilp,V.nilp,V.nilp,V.nilp,V.nilp,V.nilp,V.nilp,(uc 0),V.nils,V.nilp,V.nilp,V.nilp,V.nilp,V.nilp,V.nilp,V.nilp,V.nilp,V.nilp,V.nilp,V.nilp,V.nilp,V.nilp,V.nilp,V.nilp,V.nilp,V.nilp,V.nilp,V.nilp,V.nilp,V.nilp,V.nilp,V.nilp,V.nilp,V.nilp,V.nilp,V.nilp,V.nilp,V.nilp,V.nilp,V.nilp,V.nilp,V.nilp,V.nilp,V.nilp,V.nilp,V.nilp,V.nilp,V.nilp,V.nilp,V.nilp,V.nilp,V.nilp,V.nilp,V.nilp,V.nilp,V.nilp,V.nilp,V.nilp,V.nilp,V.nilp,V.nilp,V.nilp,V.nilp,V.nilp,V.nilp,V.nilp,V.nilp,V.nilp,V.nilp,V.nilp,V.nilp,V.nilp,V.nilp,V.nilp] [(1534,1,t3)]) λt4 =>
 uO zkG t4 λt5 =>
 M.blk 0 (
 M.iter (zh9 G t5 V.nilp) [(uc 0)]) λ_ =>
 M.pure (.ret [t5])
theorem zre:OkT zfD [] (zn3 (sem T)):=okT (by kernel_rfl) (by kernel_rfl) (by kernel_rfl)
def zhp(G:Sem')(t0:V):M Res :=
 uL (Ax.minmax true t0 [(uc 0)]) λt4 =>
 uL (Ax.minmax false t4 [(uc 100)]) λt5 =>
 (mmkslice zc3 8 [(uc 0)] t5 t5).bind λt6 =>
 uL (Ax.build [V.nils] [(0,1,t6)]) λt7 =>
 uO zf7 t7 λt8 =>
 M.pure (.ret [t8])
theorem zkc{t0:V}:OkT zdj [t0] (zhp (sem T) t0):=okT (by kernel_rfl) (by kernel_rfl) (by kernel_rfl)
def zfF(G:Sem')(t0:V):M Res :=
 uL (Ax.minmax true t0 [(uc 1)]) λt4 =>
 uL (Ax.minmax false t4 [(uc 1000)]) λt5 =>
 uL (Ax.build [(uc 0),V.nils] [(0,1,t5)]) λt6 =>
 uO zeE t6 λt7 =>
 M.pure (.ret [t7])
theorem zit{t0:V}:OkT zcq [t0] (zfF (sem T) t0):=okT (by kernel_rfl) (by kernel_rfl) (by kernel_rfl)
def zem(G:Sem'):M Res :=
 (G zfD []).bind λt9 =>
 uL (eqr .ptr false t9 V.nilp) λt11 =>
 M.ite t11
 (M.pure (.ret [(V.bool false)]))
 ((mslit zak 1 [(ub 0)] [(0,1,(ub 120))]).bind λt14 =>
 (mremark zak t14).bind λt15 =>
 uL (Ax.build [(uc 0),(uc 0),(uc 0),V.nils] [(0,1,(uc 1)),(1,1,(uc 5)),(3,1,t15)]) λt16 =>
 (G zaG [t9,t16]).bind λt17 =>
 uE 0 t17 λt18 =>
 uE 1 t17 λt19 =>
 (G za2 [t9,(uc 2)]).bind λt21 =>
 uL (Ax.build [(uc 0),(uc 0),(uc 0),(uc 0),(uc 0),(uc 0),V.nils] [(0,1,(uc 1))]) λt24 =>
 (G zay [t24]).bind λt25 =>
 uL (Ax.build [(uc 0),(uc 0),(uc 0),V.nils] [(0,1,(uc 2)),(1,1,(uc 5)),(3,1,t25)]) λt26 =>
 (G zaG [t9,t26]).bind λt27 =>
 uE 0 t27 λt28 =>
 uE 1 t27 λt29 =>
 (G zcB [t9,(uc 0)]).bind λt32 =>
 uE 0 t32 λt33 =>
 uE 1 t32 λt34 =>
 uO zah (V.agg [(V.bool false),(V.bool false),(V.bool false),(V.bool false),(V.bool false),(V.bool false),(V.bool false),(V.bool false),(uc 0),(uc 0),(uc 0),(uc 0),(uc 0),(uc 0),(uc 0),(uc 0),(uc 0),(V.bool false),(uc 0),(uc 0),(uc 0),(uc 0),(uc 0),(uc 0),(uc 0),(uc 0),(uc 0),(uc 0),(uc 0),(uc 0),(uc 0),(uc 0),(uc 0),(uc 0),(uc 0),(uc 0),(uc 0),(uc 0),(V.bool false)]) λt7 =>
 uT 39 t7 t33 λ_ =>
 uB .eql t19 (uc 0) λt36 =>
 uG t36 true (M.pure t21) λt38 =>
 uH t36 true (Ax.bin .eql t38 (uc 1)) λt39 =>
 uL (Ax.pick t36 t39 (V.bool false)) λt40 =>
 uG t40 true (M.pure t29) λt42 =>
 uH t40 true (Ax.bin .eql t42 (uc 0)) λt43 =>
 uL (Ax.pick t40 t43 (V.bool false)) λt44 =>
 uG t44 true (M.pure t9) λt46 =>
 uG t44 true (G zck [t46,(uc 5)]) λt47 =>
 uH t44 true (Ax.bin .eql t47 (uc 1)) λt48 =>
 uL (Ax.pick t44 t48 (V.bool false)) λt49 =>
 uG t49 true (M.pure t34) λt51 =>
 uL (Ax.pick t49 t51 (V.bool false)) λt52 =>
 uH t52 true (Ax.faddr 0 t7) λt54 =>
 uH t52 true (Ax.faddr 0 t54) λt55 =>
 uH t52 true (Ax.iaddr (some 8) 1 t55 (uc 0)) λt56 =>
 uG t52 true (mload none t56) λt57 =>
 uL (Ax.pick t52 t57 (V.bool false)) λt58 =>
 uH t58 true (Ax.faddr 0 t7) λt60 =>
 uH t58 true (Ax.faddr 8 t60) λt61 =>
 uH t58 true (Ax.iaddr (some 8) 1 t61 (uc 0)) λt62 =>
 uG t58 true (mload none t62) λt63 =>
 uH t58 true (Ax.bin .eql t63 (uc 5)) λt64 =>
 uL (Ax.pick t58 t64 (V.bool false)) λt65 =>
 M.pure (.ret [t65]))
theorem zgX:OkT zbs [] (zem (sem T)):=okT (by kernel_rfl) (by kernel_rfl) (by kernel_rfl)
def zdB(G:Sem')(t0 t1:V):M Res :=
 uO zbB t1 λt3 =>
 uFM 0 t3 λt7 =>
 uB .lss t7 (uc 1) λt8 =>
 uH t8 false (Ax.faddr 0 t3) λt10 =>
 uG t8 false (mload none t10) λt11 =>
 uH t8 false (Ax.bin .gtr t11 (uc 5)) λt12 =>
 uL (Ax.pick t8 (V.bool true) t12) λt13 =>
 uH t13 false (Ax.faddr 0 t3) λt15 =>
 uG t13 false (mload none t15) λt16 =>
 uH t13 false (Ax.bin .neq t16 (uc 3)) λt17 =>
 uG t13 false (M.pure t17) λt18 =>
 uH t18 true (Ax.faddr 0 t3) λt19 =>
 uG t18 true (mload none t19) λt20 =>
 uH t18 true (Ax.bin .neq t20 (uc 4)) λt21 =>
 uH t13 false (Ax.pick t18 t21 (V.bool false)) λt22 =>
 uG t13 false (M.pure t22) λt23 =>
 uH t23 true (Ax.faddr 1 t3) λt24 =>
 uG t23 true (mload none t24) λt25 =>
 uG t23 true (G zeN [t25]) λt26 =>
 uH t23 true (Ax.un .not t26) λt27 =>
 uH t13 false (Ax.pick t23 t27 (V.bool false)) λt28 =>
 uL (Ax.pick t13 (V.bool true) t28) λt29 =>
 M.ite t29
 (M.pure (.ret [V.nils,(uc 1)]))
 (uFM 0 t3 λt31 =>
 M.blk 0 (
 uB .eql t31 (uc 1) λt47 =>
 M.join (M.ite t47
 (uFM 1 t3 λt50 =>
 uFM 3 t3 λt52 =>
 (G za5 [t0,t50,t52]).bind λt53 =>
 M.pure (.nrm []))
 (uB .eql t31 (uc 2) λt55 =>
 M.join (M.ite t55
 (uFM 1 t3 λt58 =>
 uFM 3 t3 λt60 =>
 (G zaO [t0,t58,t60]).bind λt61 =>
 M.pure (.nrm []))
 (uB .eql t31 (uc 3) λt63 =>
 M.join (M.ite t63
 (uFM 2 t3 λt65 =>
 uB .lss t65 (uc 0) λt66 =>
 uH t66 false (Ax.faddr 2 t3) λt68 =>
 uG t66 false (mload none t68) λt69 =>
 uH t66 false (Ax.bin .gtr t69 (uc 100000)) λt70 =>
 uL (Ax.pick t66 (V.bool true) t70) λt71 =>
 M.ite t71
 (M.pure (.ret [V.nils,(uc 1)]))
 (uFM 2 t3 λt74 =>
 (G zgA [t0,t74]).bind λt75 =>
 M.pure (.nrm [])))
 (uB .eql t31 (uc 4) λt77 =>
 M.ite t77
 (uFM 2 t3 λt79 =>
 uB .lss t79 (uc 0) λt80 =>
 uH t80 false (Ax.faddr 2 t3) λt82 =>
 uG t80 false (mload none t82) λt83 =>
 uH t80 false (Ax.bin .gtr t83 (uc 4294967295)) λt84 =>
 uL (Ax.pick t80 (V.bool true) t84) λt85 =>
 M.ite t85
 (M.pure (.ret [V.nils,(uc 1)]))
 (uNFM 1469 t0 λt89 =>
 uL (vlen t89) λt90 =>
 uB .geq t90 (uc 16) λt91 =>
 M.ite t91
 (M.pure (.ret [V.nils,(uc 5)]))
 (uNFM 1469 t0 λt96 =>
 uFM 2 t3 λt98 =>
 uL (Ax.cint .u32 t98) λt99 =>
 (mslit zeD 1 [(V.int .u32 0)] [(0,1,t99)]).bind λt100 =>
 (mappend zeD 1 4 t96 t100).bind λt101 =>
 uNF 1469 t0 λt103 =>
 uT 1 t103 t101 λ_ =>
 M.pure (.nrm []))))
 (uFM 2 t3 λt33 =>
 uB .lss t33 (uc 0) λt34 =>
 uH t34 false (Ax.faddr 2 t3) λt36 =>
 uG t34 false (mload none t36) λt37 =>
 uH t34 false (Ax.bin .gtr t37 (uc 32)) λt38 =>
 uL (Ax.pick t34 (V.bool true) t38) λt39 =>
 M.ite t39
 (M.pure (.ret [V.nils,(uc 1)]))
 (uFM 1 t3 λt42 =>
 uFM 2 t3 λt44 =>
 (G zci [t0,t42,t44]).bind λt45 =>
 M.pure (.ret [t45,(uc 0)]))))) λ_ =>
 M.pure (.nrm []))) λ_ =>
 M.pure (.nrm []))) λ_ =>
 M.pure (.nrm [])) λ_ =>
 M.pure (.ret [V.nils,(uc 0)]))
theorem zd4{t0 t1:V}:OkT zaG [t0,t1] (zdB (sem T) t0 t1):=okT (by kernel_rfl) (by kernel_rfl) (by kernel_rfl)
def zmO(G:Sem')(t0:V):M Res :=
 uB .geq t0 (uc 0) λt4 =>
 uG t4 true (M.pure t0) λt6 =>
 uH t4 true (Ax.bin .leq t6 (uc 63)) λt7 =>
 uL (Ax.pick t4 t7 (V.bool false)) λt8 =>
 M.pure (.ret [t8])
theorem zp4{t0:V}:OkT zeN [t0] (zmO (sem T) t0):=okT (by kernel_rfl) (by kernel_rfl) (by kernel_rfl)
def zds(G:Sem')(t0 t1 t2:V):M Res :=
 uL (vlen t2) λt12 =>
 uB .gtr t12 (uc 1200) λt13 =>
 M.ite t13
 (uNFM 1534 t0 λt17 =>
 (G zbq [t17,(uc 1)]).bind λt18 =>
 M.pure (.ret []))
 ((G zch [t0,t1]).bind λt22 =>
 uE 0 t22 λt23 =>
 uE 1 t22 λt24 =>
 uE 2 t22 λt25 =>
 uL (Ax.un .not t25) λt27 =>
 M.ite t27
 (uNFM 1534 t0 λt31 =>
 (G zbq [t31,(uc 2)]).bind λt32 =>
 M.pure (.ret []))
 ((G zcj [t0,t23,t1]).bind λt36 =>
 (G zin [t2]).bind λt38 =>
 M.ite t38
 ((G ze4 [t0,t23,t24,t2]).bind λt43 =>
 M.pure (.ret []))
 ((G zcL [t23,t24,t2]).bind λt48 =>
 uE 0 t48 λt49 =>
 uE 1 t48 λt50 =>
 uO zdt (V.agg [(V.bool false),(uc 0),(V.int .u16 0),(V.int .u32 0),(V.int .u32 0),V.nils,(uc 0),V.nils,(uc 0),V.nils,(uc 0),(uc 0),(V.bool false),(V.bool false),(uc 0),(V.int .u16 0),(V.bool false),(uc 0),(uc 0),V.nils,(uc 0),V.nils,V.nils,(V.bool false),(V.int .u32 0),(V.bool false),(V.bool false),(V.bool false),V.nils,V.nils,V.nils]) λt9 =>
 uT 31 t9 t49 λ_ =>
 uB .neq t50 (uc 0) λt52 =>
 M.ite t52
 (uNFM 1534 t0 λt56 =>
 (G zbq [t56,t50]).bind λt58 =>
 M.pure (.ret []))
 (uS 31 t9 λt62 =>
 (G zcW [t0,t23,t24,t62]).bind λt63 =>
 M.pure (.ret [])))))
theorem zeG{t0 t1 t2:V}:OkT za5 [t0,t1,t2] (zds (sem T) t0 t1 t2):=okT (by kernel_rfl) (by kernel_rfl) (by kernel_rfl)
def zgC(G:Sem')(t0 t1:V):M Res :=
 uB .geq t1 (uc 0) λt5 =>
 uG t5 true (M.pure t1) λt7 =>
 uG t5 true (M.pure t0) λt8 =>
 uH t5 true (Ax.nilck t8) λt9 =>
 uH t5 true (Ax.faddr 0 t9) λt10 =>
 uG t5 true (mload none t10) λt11 =>
 uH t5 true (vlen t11) λt12 =>
 uH t5 true (Ax.bin .lss t7 t12) λt13 =>
 uL (Ax.pick t5 t13 (V.bool false)) λt14 =>
 M.join (M.ite t14
 (uNFM 0 t0 λt18 =>
 uI none 1 t18 t1 λt20 =>
 (G zcy [t20,(uc 1)]).bind λt21 =>
 M.pure (.nrm []))
 (M.pure (.nrm []))) λ_ =>
 M.pure (.ret [])
theorem zjg{t0 t1:V}:OkT zbq [t0,t1] (zgC (sem T) t0 t1):=okT (by kernel_rfl) (by kernel_rfl) (by kernel_rfl)
def zed(G:Sem')(t0 t1:V):M Res :=
 uNF 0 t0 λt7 =>
 (matoadd .i64 t7 t1).bind λt9 =>
 M.pure (.ret [t9])
theorem zgv{t0 t1:V}:OkT zcy [t0,t1] (zed (sem T) t0 t1):=okT (by kernel_rfl) (by kernel_rfl) (by kernel_rfl)
def zdJ(G:Sem')(t1 t0:V)(L:List V):M Res :=
 uB .lss (ug L 0) (uc 4) λt11 =>
 M.ite t11
 (M.blk 1 (
 uNF 0 t0 λt17 =>
 uI (some 4) 367 t17 (ug L 0) λt18 =>
 uF 0 t18 λt19 =>
 uF 0 t19 λt20 =>
 uS 16 t20 λt21 =>
 (G zd6 [t21,t1]).bind λt23 =>
 uE 0 t23 λt24 =>
 uE 1 t23 λt25 =>
 M.ite t25
 (uNF 0 t0 λt30 =>
 uI (some 4) 367 t30 (ug L 0) λt31 =>
 M.pure (.ret [t31,t24,(V.bool true)]))
 (M.pure (.nrm []))) λ_ =>
 uB .add (ug L 0) (uc 1) λt33 =>
 M.pure (.nrm [t33]))
 (M.pure (.ex 0 []))
def zgE(G:Sem')(t0 t1:V):M Res :=
 M.blk 0 (
 M.iter (zdJ G t1 t0) [(uc 0)]) λ_ =>
 M.pure (.ret [V.nilp,(uc 0),(V.bool false)])
theorem zji{t0 t1:V}:OkT zch [t0,t1] (zgE (sem T) t0 t1):=okT (by kernel_rfl) (by kernel_rfl) (by kernel_rfl)
def zkY(G:Sem')(t0 t1:V):M Res :=
 uO zal t0 λt2 =>
 uS 16 t2 λt6 =>
 (G zcf [t6]).bind λt7 =>
 uL (Ax.un .not t7) λt8 =>
 M.ite t8
 (M.pure (.ret [(uc 0),(V.bool false)]))
 (uS 16 t2 λt9 =>
 (G zdf [t9,t1]).bind λt11 =>
 uE 0 t11 λt12 =>
 uE 1 t11 λt13 =>
 M.pure (.ret [t12,t13]))
theorem zoH{t0 t1:V}:OkT zd6 [t0,t1] (zkY (sem T) t0 t1):=okT (by kernel_rfl) (by kernel_rfl) (by kernel_rfl)
def zgm(G:Sem')(t8 t1:V)(L:List V):M Res :=
 uB .lss (ug L 0) (uc 8) λt10 =>
 M.ite t10
 (M.blk 1 (
 uL (Ax.index 8 1 none t8 (ug L 0)) λt12 =>
 uF 0 t1 λt14 =>
 uIM (some 8) 1 t14 (ug L 0) λt16 =>
 uL (Ax.un .not t16) λt17 =>
 M.ite t17
 (uB .neq t12 (uc 0) λt19 =>
 M.ite t19
 (M.pure (.ret [(V.bool false)]))
 (M.pure (.ex 1 [])))
 (uS 16 t1 λt21 =>
 (G zdf [t21,t12]).bind λt23 =>
 uE 0 t23 λt24 =>
 uE 1 t23 λt25 =>
 uB .neq t24 (ug L 0) λt28 =>
 uG t28 false (M.pure t12) λt30 =>
 uG t28 false (G zd5 [t30]) λt31 =>
 uH t28 false (Ax.un .not t31) λt32 =>
 uL (Ax.pick t28 (V.bool true) t32) λt33 =>
 M.ite t33
 (M.pure (.ret [(V.bool false)]))
 (M.pure (.nrm [])))) λ_ =>
 uB .add (ug L 0) (uc 1) λt34 =>
 M.pure (.nrm [t34]))
 (M.pure (.ex 0 []))
def zkW(G:Sem')(t0:V):M Res :=
 uO zal t0 λt1 =>
 uF 8 t1 λt7 =>
 uS 8 t7 λt8 =>
 M.blk 0 (
 M.iter (zgm G t8 t1) [(uc 0)]) λ_ =>
 M.pure (.ret [(V.bool true)])
theorem zoF{t0:V}:OkT zcf [t0] (zkW (sem T) t0):=okT (by kernel_rfl) (by kernel_rfl) (by kernel_rfl)
def zgk(G:Sem')(t9 t2 t1:V)(L:List V):M Res :=
 uB .lss (ug L 0) (uc 8) λt11 =>
 M.ite t11
 (M.blk 1 (
 uL (Ax.index 8 1 none t9 (ug L 0)) λt13 =>
 uF 0 t2 λt15 =>
 uIM (some 8) 1 t15 (ug L 0) λt17 =>
 uG t17 true (M.pure t1) λt19 =>
 uG t17 true (M.pure t13) λt20 =>
 uH t17 true (Ax.bin .eql t19 t20) λt21 =>
 uL (Ax.pick t17 t21 (V.bool false)) λt22 =>
 M.ite t22
 (M.pure (.ret [(ug L 0),(V.bool true)]))
 (M.pure (.nrm []))) λ_ =>
 uB .add (ug L 0) (uc 1) λt24 =>
 M.pure (.nrm [t24]))
 (M.pure (.ex 0 []))
def zkS(G:Sem')(t0 t1:V):M Res :=
 uO zal t0 λt2 =>
 uF 8 t2 λt8 =>
 uS 8 t8 λt9 =>
 M.blk 0 (
 M.iter (zgk G t9 t2 t1) [(uc 0)]) λ_ =>
 M.pure (.ret [(uc 0),(V.bool false)])
theorem zoB{t0 t1:V}:OkT zdf [t0,t1] (zkS (sem T) t0 t1):=okT (by kernel_rfl) (by kernel_rfl) (by kernel_rfl)
def zkT(G:Sem')(t0:V):M Res :=
 uB .geq t0 (uc 0) λt4 =>
 uG t4 true (M.pure t0) λt6 =>
 uH t4 true (Ax.bin .leq t6 (uc 63)) λt7 =>
 uL (Ax.pick t4 t7 (V.bool false)) λt8 =>
 M.pure (.ret [t8])
theorem zoC{t0:V}:OkT zd5 [t0] (zkT (sem T) t0):=okT (by kernel_rfl) (by kernel_rfl) (by kernel_rfl)
def zgH(G:Sem')(t0 t1 t2:V):M Res :=
 uNF 0 t1 λt10 =>
 uS 39 t10 λt11 =>
 uNFM 1468 t0 λt16 =>
 (G zfg [t11,t2,t16]).bind λt17 =>
 uE 0 t17 λt18 =>
 uNF 0 t1 λt21 =>
 uT 39 t21 t18 λ_ =>
 uE 1 t17 λt19 =>
 M.pure (.ret [])
theorem zjl{t0 t1 t2:V}:OkT zcj [t0,t1,t2] (zgH (sem T) t0 t1 t2):=okT (by kernel_rfl) (by kernel_rfl) (by kernel_rfl)
def zk1(G:Sem')(t0 t1 t2:V):M Res :=
 uO zah t0 λt3 =>
 uO zah (V.agg [(V.bool false),(V.bool false),(V.bool false),(V.bool false),(V.bool false),(V.bool false),(V.bool false),(V.bool false),(uc 0),(uc 0),(uc 0),(uc 0),(uc 0),(uc 0),(uc 0),(uc 0),(uc 0),(V.bool false),(uc 0),(uc 0),(uc 0),(uc 0),(uc 0),(uc 0),(uc 0),(uc 0),(uc 0),(uc 0),(uc 0),(uc 0),(uc 0),(uc 0),(uc 0),(uc 0),(uc 0),(uc 0),(uc 0),(uc 0),(V.bool false)]) λt6 =>
 uS 39 t3 λt11 =>
 (G zdS [t11,t1]).bind λt13 =>
 uE 0 t13 λt14 =>
 uE 1 t13 λt15 =>
 uB .neq t15 (uc 0) λt17 =>
 M.ite t17
 (uS 39 t3 λt18 =>
 uT 39 t6 t18 λ_ =>
 uS 39 t6 λr0 =>
 M.pure (.ret [r0,t15]))
 (uF 22 t3 λt22 =>
 uI (some 8) 1 t22 t14 λt23 =>
 uT 1 t23 t2 λ_ =>
 uS 39 t3 λt24 =>
 uT 39 t6 t24 λ_ =>
 uS 39 t6 λr0 =>
 M.pure (.ret [r0,(uc 0)]))
theorem zoJ{t0 t1 t2:V}:OkT zfg [t0,t1,t2] (zk1 (sem T) t0 t1 t2):=okT (by kernel_rfl) (by kernel_rfl) (by kernel_rfl)
def zmI(G:Sem')(t0 t1:V):M Res :=
 uO zah t0 λt2 =>
 uS 39 t2 λt8 =>
 (G zeM [t8]).bind λt9 =>
 uL (Ax.un .not t9) λt10 =>
 M.ite t10
 (M.pure (.ret [(uc 0),(uc 1)]))
 (uF 0 t2 λt12 =>
 uS 16 t12 λt13 =>
 (G zd6 [t13,t1]).bind λt15 =>
 uE 0 t15 λt16 =>
 uE 1 t15 λt17 =>
 uL (Ax.un .not t17) λt19 =>
 M.ite t19
 (M.pure (.ret [(uc 0),(uc 6)]))
 (M.pure (.ret [t16,(uc 0)])))
theorem zpY{t0 t1:V}:OkT zdS [t0,t1] (zmI (sem T) t0 t1):=okT (by kernel_rfl) (by kernel_rfl) (by kernel_rfl)
def zhb(G:Sem')(t18 t1:V)(L:List V):M Res :=
 uB .lss (ug L 0) (uc 8) λt20 =>
 M.ite t20
 (M.blk 1 (
 uL (Ax.index 8 1 none t18 (ug L 0)) λt22 =>
 uL (Ax.un .not t22) λt24 =>
 uG t24 true (M.pure (ug L 0)) λt26 =>
 uH t24 true (Ax.faddr 22 t1) λt27 =>
 uH t24 true (Ax.iaddr (some 8) 1 t27 t26) λt28 =>
 uG t24 true (mload none t28) λt29 =>
 uH t24 true (Ax.bin .neq t29 (uc 0)) λt30 =>
 uG t24 true (M.pure t30) λt31 =>
 uG t31 false (M.pure (ug L 0)) λt32 =>
 uH t31 false (Ax.faddr 30 t1) λt33 =>
 uH t31 false (Ax.iaddr (some 8) 1 t33 t32) λt34 =>
 uG t31 false (mload none t34) λt35 =>
 uH t31 false (Ax.bin .neq t35 (uc 0)) λt36 =>
 uH t24 true (Ax.pick t31 (V.bool true) t36) λt37 =>
 uL (Ax.pick t24 t37 (V.bool false)) λt38 =>
 uG t38 false (M.pure (ug L 0)) λt40 =>
 uH t38 false (Ax.faddr 30 t1) λt41 =>
 uH t38 false (Ax.iaddr (some 8) 1 t41 t40) λt42 =>
 uG t38 false (mload none t42) λt43 =>
 uH t38 false (Ax.bin .lss t43 (uc 0)) λt44 =>
 uL (Ax.pick t38 (V.bool true) t44) λt45 =>
 uG t45 false (M.pure (ug L 0)) λt47 =>
 uH t45 false (Ax.faddr 30 t1) λt48 =>
 uH t45 false (Ax.iaddr (some 8) 1 t48 t47) λt49 =>
 uG t45 false (mload none t49) λt50 =>
 uH t45 false (Ax.faddr 16 t1) λt51 =>
 uH t45 false (Ax.faddr 0 t51) λt52 =>
 uG t45 false (mload none t52) λt53 =>
 uH t45 false (Ax.bin .gtr t50 t53) λt54 =>
 uL (Ax.pick t45 (V.bool true) t54) λt55 =>
 M.ite t55
 (M.pure (.ret [(V.bool false)]))
 (M.pure (.nrm []))) λ_ =>
 uB .add (ug L 0) (uc 1) λt56 =>
 M.pure (.nrm [t56]))
 (M.pure (.ex 0 []))
def zmL(G:Sem')(t0:V):M Res :=
 uO zah t0 λt1 =>
 uF 0 t1 λt6 =>
 uS 16 t6 λt7 =>
 (G zcf [t7]).bind λt8 =>
 uL (Ax.un .not t8) λt9 =>
 uH t9 false (Ax.faddr 16 t1) λt11 =>
 uG t9 false (mload (some 6) t11) λt12 =>
 uG t9 false (G zcK [t12]) λt13 =>
 uH t9 false (Ax.un .not t13) λt14 =>
 uL (Ax.pick t9 (V.bool true) t14) λt15 =>
 M.ite t15
 (M.pure (.ret [(V.bool false)]))
 (uF 0 t1 λt16 =>
 uF 0 t16 λt17 =>
 uS 8 t17 λt18 =>
 M.blk 0 (
 M.iter (zhb G t18 t1) [(uc 0)]) λ_ =>
 uF 0 t1 λt57 =>
 uS 16 t57 λt58 =>
 (G zcI [t58]).bind λt59 =>
 uF 16 t1 λt60 =>
 uFM 1 t60 λt62 =>
 uL (Ax.un .not t62) λt63 =>
 uH t63 false (Ax.faddr 16 t1) λt65 =>
 uH t63 false (Ax.faddr 3 t65) λt66 =>
 uG t63 false (mload none t66) λt67 =>
 uG t63 false (M.pure t59) λt68 =>
 uH t63 false (Ax.bin .andNot t67 t68) λt69 =>
 uH t63 false (Ax.bin .eql t69 (uc 0)) λt70 =>
 uL (Ax.pick t63 (V.bool true) t70) λt71 =>
 uH t71 true (Ax.faddr 38 t1) λt73 =>
 uG t71 true (mload none t73) λt74 =>
 uH t71 true (Ax.un .not t74) λt75 =>
 uG t71 true (M.pure t75) λt76 =>
 uG t76 false (M.pure t59) λt77 =>
 uH t76 false (Ax.bin .eql t77 (uc 0)) λt78 =>
 uH t71 true (Ax.pick t76 (V.bool true) t78) λt79 =>
 uL (Ax.pick t71 t79 (V.bool false)) λt80 =>
 M.pure (.ret [t80]))
theorem zp1{t0:V}:OkT zeM [t0] (zmL (sem T) t0):=okT (by kernel_rfl) (by kernel_rfl) (by kernel_rfl)
def zk4(G:Sem')(t0:V):M Res :=
 uO zaj t0 λt1 =>
 uFM 0 t1 λt4 =>
 uB .lss t4 (uc 0) λt5 =>
 uH t5 false (Ax.faddr 0 t1) λt7 =>
 uG t5 false (mload none t7) λt8 =>
 uH t5 false (Ax.bin .gtr t8 (uc 65535)) λt9 =>
 uL (Ax.pick t5 (V.bool true) t9) λt10 =>
 M.ite t10
 (M.pure (.ret [(V.bool false)]))
 (uFM 1 t1 λt12 =>
 uL (Ax.un .not t12) λt13 =>
 M.ite t13
 (uS 6 t1 λt14 =>
 uFM 0 t1 λt16 =>
 uL (Ax.build [(uc 0),(V.bool false),(uc 0),(uc 0),(uc 0),(uc 0)] [(0,1,t16)]) λt17 =>
 uL (eqr (.st [.int,.bool,.int,.int,.int,.int]) false t14 t17) λt18 =>
 M.pure (.ret [t18]))
 (uFM 2 t1 λt20 =>
 uFM 0 t1 λt22 =>
 uB .gtr t20 t22 λt23 =>
 uH t23 true (Ax.faddr 2 t1) λt25 =>
 uG t23 true (mload none t25) λt26 =>
 uH t23 true (Ax.bin .leq t26 (uc 65535)) λt27 =>
 uL (Ax.pick t23 t27 (V.bool false)) λt28 =>
 uH t28 true (Ax.faddr 3 t1) λt30 =>
 uG t28 true (mload none t30) λt31 =>
 uH t28 true (Ax.bin .geq t31 (uc 1)) λt32 =>
 uL (Ax.pick t28 t32 (V.bool false)) λt33 =>
 uH t33 true (Ax.faddr 3 t1) λt35 =>
 uG t33 true (mload none t35) λt36 =>
 uH t33 true (Ax.bin .leq t36 (uc 255)) λt37 =>
 uL (Ax.pick t33 t37 (V.bool false)) λt38 =>
 uH t38 true (Ax.faddr 4 t1) λt40 =>
 uG t38 true (mload none t40) λt41 =>
 uH t38 true (Ax.faddr 3 t1) λt42 =>
 uG t38 true (mload none t42) λt43 =>
 uH t38 true (Ax.bin .andNot t41 t43) λt44 =>
 uH t38 true (Ax.bin .eql t44 (uc 0)) λt45 =>
 uL (Ax.pick t38 t45 (V.bool false)) λt46 =>
 uH t46 true (Ax.faddr 4 t1) λt48 =>
 uG t46 true (mload none t48) λt49 =>
 uH t46 true (Ax.faddr 3 t1) λt50 =>
 uG t46 true (mload none t50) λt51 =>
 uH t46 true (Ax.bin .neq t49 t51) λt52 =>
 uL (Ax.pick t46 t52 (V.bool false)) λt53 =>
 M.pure (.ret [t53])))
theorem zoM{t0:V}:OkT zcK [t0] (zk4 (sem T) t0):=okT (by kernel_rfl) (by kernel_rfl) (by kernel_rfl)
end Go.Ax
/- FnS2 -/
namespace Go.Ax
open Go.Proofs
def zgl(G:Sem')(t10 t2:V)(L:List V):M Res :=
 uB .lss (ug L 1) (uc 8) λt12 =>
 M.ite t12
 (M.blk 1 (
 uL (Ax.index 8 1 none t10 (ug L 1)) λt14 =>
 M.join (M.ite t14
 (uB .shl (uc 1) (ug L 1) λt18 =>
 uB .or (ug L 0) t18 λt19 =>
 M.pure (.nrm [t19]))
 (M.pure (.nrm [(ug L 0)]))) λL0 =>
 M.pure (.nrm [(ug L0 0)])) λL1 =>
 uB .add (ug L 1) (uc 1) λt20 =>
 M.pure (.nrm [(ug L1 0),t20]))
 (M.pure (.ex 0 [(ug L 0)]))
def zkV(G:Sem')(t0:V):M Res :=
 uO zal t0 λt1 =>
 uS 16 t1 λt6 =>
 (G zcf [t6]).bind λt7 =>
 uL (Ax.un .not t7) λt8 =>
 M.ite t8
 (M.pure (.ret [(uc 0)]))
 (uF 0 t1 λt9 =>
 uS 8 t9 λt10 =>
 M.blk 0 (
 M.iter (zgl G t10 (uc 0)) [(uc 0),(uc 0)]) λL2 =>
 M.pure (.ret [(ug L2 0)]))
theorem zoE{t0:V}:OkT zcI [t0] (zkV (sem T) t0):=okT (by kernel_rfl) (by kernel_rfl) (by kernel_rfl)
def zqv(G:Sem')(t0:V):M Res :=
 uL (vlen t0) λt4 =>
 uB .geq t4 (uc 2) λt5 =>
 uG t5 true (M.pure t0) λt7 =>
 uH t5 true (Ax.iaddr none 1 t7 (uc 1)) λt8 =>
 uG t5 true (mload none t8) λt9 =>
 uH t5 true (Ax.bin .geq t9 (ub 192)) λt10 =>
 uL (Ax.pick t5 t10 (V.bool false)) λt11 =>
 uG t11 true (M.pure t0) λt13 =>
 uH t11 true (Ax.iaddr none 1 t13 (uc 1)) λt14 =>
 uG t11 true (mload none t14) λt15 =>
 uH t11 true (Ax.bin .leq t15 (ub 223)) λt16 =>
 uL (Ax.pick t11 t16 (V.bool false)) λt17 =>
 M.pure (.ret [t17])
theorem zti{t0:V}:OkT zin [t0] (zqv (sem T) t0):=okT (by kernel_rfl) (by kernel_rfl) (by kernel_rfl)
def zhc(G:Sem')(t0:V):M Res :=
 uL (eqr .sl false t0 V.nils) λt4 =>
 M.ite t4
 (M.pure (.ret [V.nils]))
 ((mslit zak 0 [(ub 0)] []).bind λt5 =>
 (mappend zak 1 1 t5 t0).bind λt7 =>
 M.pure (.ret [t7]))
theorem ziB{t0:V}:OkT zbF [t0] (zhc (sem T) t0):=okT (by kernel_rfl) (by kernel_rfl) (by kernel_rfl)
def zht(G:Sem')(t0 t1 t2 t3:V):M Res :=
 uNF 1470 t0 λt11 =>
 uI (some 64) 1 t11 t1 λt12 =>
 uM t12 λt13 =>
 M.getH.bind λh0 =>
 (G zbF [t3]).bind λt17 =>
 M.getH.bind λh0' =>
 uU t12 h0 h0' λ_ =>
 uL (Ax.build [(uc 0),(uc 0),V.nils] [(0,1,t1),(1,1,t2),(2,1,t17)]) λt18 =>
 (G zbD [t13,t18]).bind λt19 =>
 uL (Ax.un .not t19) λt20 =>
 M.join (M.ite t20
 (uNFM 1534 t0 λt24 =>
 (G zbq [t24,(uc 10)]).bind λt25 =>
 M.pure (.nrm []))
 (M.pure (.nrm []))) λ_ =>
 M.pure (.ret [])
theorem zkh{t0 t1 t2 t3:V}:OkT zcA [t0,t1,t2,t3] (zht (sem T) t0 t1 t2 t3):=okT (by kernel_rfl) (by kernel_rfl) (by kernel_rfl)
def zdW(G:Sem')(t0 t1:V):M Res :=
 uO zcl t1 λt3 =>
 uNFM 1 t0 λt8 =>
 uL (vlen t8) λt9 =>
 uNFM 0 t0 λt13 =>
 uB .geq t9 t13 λt14 =>
 M.ite t14
 (M.pure (.ret [(V.bool false)]))
 (uNFM 1 t0 λt19 =>
 uS 3 t3 λt20 =>
 (mslit zcl 1 [(uc 0),(uc 0),V.nils] [(0,3,t20)]).bind λt21 =>
 (mappend zcl 3 40 t19 t21).bind λt22 =>
 uNF 1 t0 λt24 =>
 uT 1 t24 t22 λ_ =>
 M.pure (.ret [(V.bool true)]))
theorem zgg{t0 t1:V}:OkT zbD [t0,t1] (zdW (sem T) t0 t1):=okT (by kernel_rfl) (by kernel_rfl) (by kernel_rfl)
end Go.Ax
/- FnS3 -/
namespace Go.Ax
open Go.Proofs
def zf6(G:Sem')(t0 t1 t2:V):M Res :=
 let p:=V.int .u32 0
 uO zdt (V.agg [(V.bool false),(uc 0),(V.int .u16 0),p,p,V.nils,(uc 0),V.nils,(uc 0),V.nils,(uc 0),(uc 0),(V.bool false),(V.bool false),(uc 0),(V.int .u16 0),(V.bool false),(uc 0),(uc 0),V.nils,(uc 0),V.nils,V.nils,(V.bool false),p,(V.bool false),(V.bool false),(V.bool false),V.nils,V.nils,V.nils]) λt6 =>
 (G zfZ [t2]).bind λt24 =>
 uE 0 t24 λt25 =>
 uE 1 t24 λt26 =>
 uO zaC (V.agg [(V.bool false),(uc 0),(V.int .u16 0),p,p,V.nils,(uc 0),V.nils,(uc 0),V.nils]) λt8 =>
 uT 10 t8 t25 λ_ =>
 uB .neq t26 (uc 0) λt28 =>
 M.ite t28
 (uL (Ax.build [(V.bool false),(uc 0),(V.int .u16 0),p,p,V.nils,(uc 0),V.nils,(uc 0),V.nils,(uc 0),(uc 0),(V.bool false),(V.bool false),(uc 0),(V.int .u16 0),(V.bool false),(uc 0),(uc 0),V.nils,(uc 0),V.nils,V.nils,(V.bool false),p,(V.bool false),(V.bool false),(V.bool false),V.nils,V.nils,V.nils] []) λt29 =>
 uT 31 t6 t29 λ_ =>
 uS 31 t6 λr0 =>
 M.pure (.ret [r0,(uc 3)]))
 (uFM 4 t8 λt34 =>
 (G zby [t0,t1,t34]).bind λt35 =>
 uE 0 t35 λt36 =>
 uE 1 t35 λt37 =>
 uL (Ax.un .not t37) λt39 =>
 M.ite t39
 (uL (Ax.build [(V.bool false),(uc 0),(V.int .u16 0),p,p,V.nils,(uc 0),V.nils,(uc 0),V.nils,(uc 0),(uc 0),(V.bool false),(V.bool false),(uc 0),(V.int .u16 0),(V.bool false),(uc 0),(uc 0),V.nils,(uc 0),V.nils,V.nils,(V.bool false),p,(V.bool false),(V.bool false),(V.bool false),V.nils,V.nils,V.nils] []) λt40 =>
 uT 31 t6 t40 λ_ =>
 uS 31 t6 λr0 =>
 M.pure (.ret [r0,(uc 4)]))
 (uFM 9 t8 λt43 =>
 (G zeb [t43]).bind λt44 =>
 uE 0 t44 λt45 =>
 uE 1 t44 λt46 =>
 uE 2 t44 λt47 =>
 uE 3 t44 λt48 =>
 (G zf4 [t45]).bind λt51 =>
 uE 0 t51 λt52 =>
 uE 1 t51 λt53 =>
 uE 2 t51 λt54 =>
 uE 3 t51 λt55 =>
 uB .neq t48 (uc 0) λt57 =>
 uG t57 false (M.pure t55) λt59 =>
 uH t57 false (Ax.un .not t59) λt60 =>
 uL (Ax.pick t57 (V.bool true) t60) λt61 =>
 M.ite t61
 (uL (Ax.build [(V.bool false),(uc 0),(V.int .u16 0),p,p,V.nils,(uc 0),V.nils,(uc 0),V.nils,(uc 0),(uc 0),(V.bool false),(V.bool false),(uc 0),(V.int .u16 0),(V.bool false),(uc 0),(uc 0),V.nils,(uc 0),V.nils,V.nils,(V.bool false),p,(V.bool false),(V.bool false),(V.bool false),V.nils,V.nils,V.nils] []) λt62 =>
 uT 31 t6 t62 λ_ =>
 uS 31 t6 λr0 =>
 M.pure (.ret [r0,(uc 5)]))
 (uNF 0 t0 λt65 =>
 uF 16 t65 λt66 =>
 uFM 0 t66 λt68 =>
 uB .neq t54 t1 λt71 =>
 uG t71 false (M.pure t52) λt73 =>
 uG t71 false (M.pure t68) λt74 =>
 uH t71 false (Ax.bin .neq t73 t74) λt75 =>
 uG t71 false (M.pure t75) λt76 =>
 uG t76 true (M.pure t52) λt77 =>
 uG t76 true (M.pure t68) λt78 =>
 uH t76 true (Ax.bin .sub t78 (uc 1)) λt79 =>
 uH t76 true (Ax.bin .neq t77 t79) λt80 =>
 uH t71 false (Ax.pick t76 t80 (V.bool false)) λt81 =>
 uL (Ax.pick t71 (V.bool true) t81) λt82 =>
 M.ite t82
 (uL (Ax.build [(V.bool false),(uc 0),(V.int .u16 0),p,p,V.nils,(uc 0),V.nils,(uc 0),V.nils,(uc 0),(uc 0),(V.bool false),(V.bool false),(uc 0),(V.int .u16 0),(V.bool false),(uc 0),(uc 0),V.nils,(uc 0),V.nils,V.nils,(V.bool false),p,(V.bool false),(V.bool false),(V.bool false),V.nils,V.nils,V.nils] []) λt83 =>
 uT 31 t6 t83 λ_ =>
 uS 31 t6 λr0 =>
 M.pure (.ret [r0,(uc 6)]))
 (uS 10 t8 λt85 =>
 (G zg5 [t85,(uc 1)]).bind λt86 =>
 uE 0 t86 λt87 =>
 uE 1 t86 λt88 =>
 uL (Ax.un .not t88) λt90 =>
 M.ite t90
 (uL (Ax.build [(V.bool false),(uc 0),(V.int .u16 0),p,p,V.nils,(uc 0),V.nils,(uc 0),V.nils,(uc 0),(uc 0),(V.bool false),(V.bool false),(uc 0),(V.int .u16 0),(V.bool false),(uc 0),(uc 0),V.nils,(uc 0),V.nils,V.nils,(V.bool false),p,(V.bool false),(V.bool false),(V.bool false),V.nils,V.nils,V.nils] []) λt91 =>
 uT 31 t6 t91 λ_ =>
 uS 31 t6 λr0 =>
 M.pure (.ret [r0,(uc 7)]))
 (uNF 39 t0 λt96 =>
 uI (some 8) 33 t96 t1 λt97 =>
 uI (some 3) 11 t97 t36 λt98 =>
 uS 11 t98 λt99 =>
 uO zf8 (V.agg [(V.bool false),p,(uc 0),(uc 0),(uc 0),V.nils,(uc 0),V.nils,V.nils,p,V.nils]) λt20 =>
 uT 11 t20 t99 λ_ =>
 uF 3 t20 λt102 =>
 uS 6 t102 λt103 =>
 (G zbt [t87,t103]).bind λt104 =>
 uE 0 t104 λt105 =>
 uE 1 t104 λt106 =>
 uO zfp (V.agg [(V.bool false),(V.bool false),(uc 0),(V.int .u16 0),(V.bool false),(uc 0),(uc 0),V.nils,(uc 0),V.nils,V.nils,(V.bool false),p,(V.bool false),(V.bool false),(V.bool false),V.nils,V.nils,V.nils]) λt21 =>
 uT 19 t21 t105 λ_ =>
 uB .neq t106 (uc 0) λt108 =>
 M.ite t108
 (uL (Ax.build [(V.bool false),(uc 0),(V.int .u16 0),p,p,V.nils,(uc 0),V.nils,(uc 0),V.nils,(uc 0),(uc 0),(V.bool false),(V.bool false),(uc 0),(V.int .u16 0),(V.bool false),(uc 0),(uc 0),V.nils,(uc 0),V.nils,V.nils,(V.bool false),p,(V.bool false),(V.bool false),(V.bool false),V.nils,V.nils,V.nils] []) λt109 =>
 uT 31 t6 t109 λ_ =>
 uS 31 t6 λr0 =>
 M.pure (.ret [r0,(uc 8)]))
 (uFM 10 t20 λt111 =>
 uFM 2 t8 λt113 =>
 (G zg6 [t111,t113]).bind λt114 =>
 M.ite t114
 (uL (Ax.build [(V.bool false),(uc 0),(V.int .u16 0),p,p,V.nils,(uc 0),V.nils,(uc 0),V.nils,(uc 0),(uc 0),(V.bool false),(V.bool false),(uc 0),(V.int .u16 0),(V.bool false),(uc 0),(uc 0),V.nils,(uc 0),V.nils,V.nils,(V.bool false),p,(V.bool false),(V.bool false),(V.bool false),V.nils,V.nils,V.nils] []) λt115 =>
 uT 31 t6 t115 λ_ =>
 uS 31 t6 λr0 =>
 M.pure (.ret [r0,(uc 9)]))
 (uS 10 t8 λt116 =>
 uS 19 t21 λt119 =>
 uL (Ax.build [(V.bool false),(uc 0),(V.int .u16 0),p,p,V.nils,(uc 0),V.nils,(uc 0),V.nils,(uc 0),(uc 0),(V.bool false),(V.bool false),(uc 0),(V.int .u16 0),(V.bool false),(uc 0),(uc 0),V.nils,(uc 0),V.nils,V.nils,(V.bool false),p,(V.bool false),(V.bool false),(V.bool false),V.nils,V.nils,V.nils] [(0,10,t116),(10,1,t36),(11,1,t52),(12,19,t119)]) λt120 =>
 uT 31 t6 t120 λ_ =>
 uS 31 t6 λr0 =>
 M.pure (.ret [r0,(uc 0)]))))))))
theorem ziO{t0 t1 t2:V}:OkT zcL [t0,t1,t2] (zf6 (sem T) t0 t1 t2):=okT (by kernel_rfl) (by kernel_rfl) (by kernel_rfl)
def zfk(G:Sem')(t5 t0 t4 t2:V)(L:List V):M Res :=
 uB .lss (ug L 0) t5 λt62 =>
 M.ite t62
 (M.blk 2 (
 uF 5 t4 λt65 =>
 uM t65 λt66 =>
 uB .add (ug L 0) (uc 4) λt70 =>
 uL (zaU .sl 1 t0 (some (ug L 0)) (some t70) none) λt71 =>
 M.getH.bind λh3 =>
 (G zdi [t71]).bind λt72 =>
 M.getH.bind λh3' =>
 uU t65 h3 h3' λ_ =>
 (mslit zeD 1 [(V.int .u32 0)] [(0,1,t72)]).bind λt73 =>
 (mappend zeD 1 4 t66 t73).bind λt74 =>
 uF 5 t4 λt75 =>
 uT 1 t75 t74 λ_ =>
 M.pure (.nrm [])) λ_ =>
 uB .add (ug L 0) (uc 4) λt64 =>
 M.pure (.nrm [t64]))
 (M.pure (.ex 1 []))
def zmH(G:Sem')(t0:V):M Res :=
 let p:=V.int .u32 0
 uO zaC (V.agg [(V.bool false),(uc 0),(V.int .u16 0),p,p,V.nils,(uc 0),V.nils,(uc 0),V.nils]) λt2 =>
 M.blk 0 (
 uL (vlen t0) λt12 =>
 uB .gtr t12 (uc 1200) λt13 =>
 M.ite t13
 (uL (Ax.build [(V.bool false),(uc 0),(V.int .u16 0),p,p,V.nils,(uc 0),V.nils,(uc 0),V.nils] []) λt14 =>
 uT 10 t2 t14 λ_ =>
 uS 10 t2 λr0 =>
 M.pure (.ret [r0,(uc 4)]))
 (uL (vlen t0) λt17 =>
 uB .lss t17 (uc 12) λt18 =>
 M.ite t18
 (uL (Ax.build [(V.bool false),(uc 0),(V.int .u16 0),p,p,V.nils,(uc 0),V.nils,(uc 0),V.nils] []) λt19 =>
 uT 10 t2 t19 λ_ =>
 uS 10 t2 λr0 =>
 M.pure (.ret [r0,(uc 3)]))
 (uIM none 1 t0 (uc 0) λt23 =>
 uB .shr t23 (uq 6) λt24 =>
 uB .neq t24 (ub 2) λt25 =>
 M.ite t25
 (uL (Ax.build [(V.bool false),(uc 0),(V.int .u16 0),p,p,V.nils,(uc 0),V.nils,(uc 0),V.nils] []) λt26 =>
 uT 10 t2 t26 λ_ =>
 uS 10 t2 λr0 =>
 M.pure (.ret [r0,(uc 2)]))
 (M.pure (.nrm []))))) λ_ =>
 uI none 1 t0 (uc 1) λt28 =>
 uM t28 λt29 =>
 uB .and t29 (ub 128) λt30 =>
 uB .neq t30 (ub 0) λt31 =>
 uI none 1 t0 (uc 1) λt33 =>
 uM t33 λt34 =>
 uB .andNot t34 (ub 128) λt35 =>
 uL (Ax.cint .i64 t35) λt36 =>
 uL (zaU .sl 1 t0 (some (uc 2)) (some (uc 4)) none) λt38 =>
 uL (zaU .sl 1 t0 (some (uc 4)) (some (uc 8)) none) λt42 =>
 uL (zaU .sl 1 t0 (some (uc 8)) (some (uc 12)) none) λt45 =>
 M.getH.bind λh0 =>
 (G zdi [t38]).bind λt39 =>
 M.getH.bind λh0' =>
 uU t33 h0 h0' λ_ =>
 uU t28 h0 h0' λ_ =>
 M.getH.bind λh1 =>
 (G zdi [t42]).bind λt43 =>
 M.getH.bind λh1' =>
 uU t33 h1 h1' λ_ =>
 uU t28 h1 h1' λ_ =>
 M.getH.bind λh2 =>
 (G zdi [t45]).bind λt46 =>
 M.getH.bind λh2' =>
 uU t33 h2 h2' λ_ =>
 uU t28 h2 h2' λ_ =>
 uL (Ax.cint .u16 t39) λt40 =>
 uL (Ax.build [(V.bool false),(uc 0),(V.int .u16 0),p,p,V.nils,(uc 0),V.nils,(uc 0),V.nils] [(0,1,t31),(1,1,t36),(2,1,t40),(3,1,t43),(4,1,t46)]) λt47 =>
 uO zaC (V.agg [(V.bool false),(uc 0),(V.int .u16 0),p,p,V.nils,(uc 0),V.nils,(uc 0),V.nils]) λt4 =>
 uT 10 t4 t47 λ_ =>
 uIM none 1 t0 (uc 0) λt50 =>
 uB .and t50 (ub 15) λt51 =>
 uL (Ax.cint .i64 t51) λt52 =>
 uB .mul (uc 4) t52 λt53 =>
 uB .add (uc 12) t53 λt54 =>
 uL (vlen t0) λt56 =>
 uB .lss t56 t54 λt58 =>
 M.ite t58
 (uL (Ax.build [(V.bool false),(uc 0),(V.int .u16 0),p,p,V.nils,(uc 0),V.nils,(uc 0),V.nils] []) λt59 =>
 uT 10 t2 t59 λ_ =>
 uS 10 t2 λr0 =>
 M.pure (.ret [r0,(uc 3)]))
 (M.blk 1 (
 M.iter (zfk G t54 t0 t4 t2) [(uc 12)]) λ_ =>
 uIM none 1 t0 (uc 0) λt78 =>
 uB .and t78 (ub 16) λt79 =>
 uB .neq t79 (ub 0) λt80 =>
 M.join (M.ite t80
 (uL (zaU .sl 1 t0 (some t54) none none) λt84 =>
 (G zdD [t4,t84]).bind λt85 =>
 uE 0 t85 λt86 =>
 uE 1 t85 λt87 =>
 uB .neq t87 (uc 0) λt89 =>
 M.ite t89
 (uL (Ax.build [(V.bool false),(uc 0),(V.int .u16 0),p,p,V.nils,(uc 0),V.nils,(uc 0),V.nils] []) λt90 =>
 uT 10 t2 t90 λ_ =>
 uS 10 t2 λr0 =>
 M.pure (.ret [r0,t87]))
 (uB .add t54 t86 λt94 =>
 M.pure (.nrm [t94])))
 (M.pure (.nrm [t54]))) λL3 =>
 uL (zaU .sl 1 t0 (some (ug L3 0)) none none) λt97 =>
 uIM none 1 t0 (uc 0) λt100 =>
 uB .and t100 (ub 32) λt101 =>
 uB .neq t101 (ub 0) λt102 =>
 M.join (M.ite t102
 (uL (vlen t0) λt105 =>
 uB .sub t105 (uc 1) λt106 =>
 uIM none 1 t0 t106 λt108 =>
 uL (Ax.cint .i64 t108) λt109 =>
 uF 8 t4 λt110 =>
 uT 1 t110 t109 λ_ =>
 uFM 8 t4 λt112 =>
 uB .eql t112 (uc 0) λt113 =>
 uH t113 false (Ax.faddr 8 t4) λt115 =>
 uG t113 false (mload none t115) λt116 =>
 uG t113 false (M.pure t97) λt117 =>
 uH t113 false (vlen t117) λt118 =>
 uH t113 false (Ax.bin .gtr t116 t118) λt119 =>
 uL (Ax.pick t113 (V.bool true) t119) λt120 =>
 M.ite t120
 (uL (Ax.build [(V.bool false),(uc 0),(V.int .u16 0),p,p,V.nils,(uc 0),V.nils,(uc 0),V.nils] []) λt121 =>
 uT 10 t2 t121 λ_ =>
 uS 10 t2 λr0 =>
 M.pure (.ret [r0,(uc 2)]))
 (M.pure (.nrm [])))
 (M.pure (.nrm []))) λ_ =>
 uL (vlen t97) λt124 =>
 uFM 8 t4 λt126 =>
 uB .sub t124 t126 λt127 =>
 uL (zaU .sl 1 t97 none (some t127) none) λt128 =>
 (G zbF [t128]).bind λt129 =>
 uF 9 t4 λt130 =>
 uT 1 t130 t129 λ_ =>
 uS 10 t4 λt131 =>
 uT 10 t2 t131 λ_ =>
 uS 10 t2 λr0 =>
 M.pure (.ret [r0,(uc 0)]))
theorem zpX{t0:V}:OkT zfZ [t0] (zmH (sem T) t0):=okT (by kernel_rfl) (by kernel_rfl) (by kernel_rfl)
end Go.Ax
/- FnS4 -/
namespace Go.Ax
open Go.Proofs
def ziZ(G:Sem')(t7 t6 t2:V)(L:List V):M Res :=
 uB .lss (ug L 1) t7 λt9 =>
 M.ite t9
 (M.blk 1 (
 uIM none 1 t6 (ug L 1) λt11 =>
 uB .shl (ug L 0) (uq 8) λt13 =>
 uL (Ax.cint .u32 t11) λt15 =>
 uB .or t13 t15 λt16 =>
 M.pure (.nrm [t16])) λL0 =>
 uB .add (ug L 1) (uc 1) λt17 =>
 M.pure (.nrm [(ug L0 0),t17]))
 (M.pure (.ex 0 [(ug L 0)]))
def zqu(G:Sem')(t0:V):M Res :=
 uL (vlen t0) λt7 =>
 M.blk 0 (
 M.iter (ziZ G t7 t0 (V.int .u32 0)) [(V.int .u32 0),(uc 0)]) λL1 =>
 M.pure (.ret [(ug L1 0)])
theorem zth{t0:V}:OkT zdi [t0] (zqu (sem T) t0):=okT (by kernel_rfl) (by kernel_rfl) (by kernel_rfl)
def zh7(G:Sem')(t0 t1:V):M Res :=
 uL (vlen t1) λt10 =>
 uB .lss t10 (uc 4) λt11 =>
 M.ite t11
 (M.pure (.ret [(uc 0),(uc 3)]))
 (uL (zaU .sl 1 t1 (some (uc 2)) (some (uc 4)) none) λt13 =>
 (G zdi [t13]).bind λt14 =>
 uL (Ax.cint .i64 t14) λt15 =>
 uB .mul (uc 4) t15 λt16 =>
 uB .add (uc 4) t16 λt17 =>
 uL (vlen t1) λt19 =>
 uB .lss t19 t17 λt21 =>
 M.ite t21
 (M.pure (.ret [(uc 0),(uc 3)]))
 (uL (zaU .sl 1 t1 none (some (uc 2)) none) λt24 =>
 (G zdi [t24]).bind λt25 =>
 uL (Ax.cint .i64 t25) λt26 =>
 uNF 6 t0 λt28 =>
 uT 1 t28 t26 λ_ =>
 uNFM 6 t0 λt32 =>
 uB .neq t32 (uc 48862) λt33 =>
 uG t33 true (M.pure t0) λt35 =>
 uH t33 true (Ax.nilck t35) λt36 =>
 uH t33 true (Ax.faddr 6 t36) λt37 =>
 uG t33 true (mload none t37) λt38 =>
 uH t33 true (Ax.bin .neq t38 (uc 4096)) λt39 =>
 uL (Ax.pick t33 t39 (V.bool false)) λt40 =>
 M.ite t40
 (M.pure (.ret [(uc 0),(uc 2)]))
 (uNFM 6 t0 λt45 =>
 uL (zaU .sl 1 t1 (some (uc 4)) (some t17) none) λt48 =>
 (G zfz [t45,t48]).bind λt49 =>
 uE 0 t49 λt50 =>
 uE 1 t49 λt51 =>
 uL (Ax.un .not t51) λt53 =>
 M.ite t53
 (M.pure (.ret [(uc 0),(uc 2)]))
 (uNF 7 t0 λt57 =>
 uT 1 t57 t50 λ_ =>
 M.pure (.ret [t17,(uc 0)])))))
theorem zlg{t0 t1:V}:OkT zdD [t0,t1] (zh7 (sem T) t0 t1):=okT (by kernel_rfl) (by kernel_rfl) (by kernel_rfl)
def zkZ(G:Sem')(t0:V)(L:List V):M Res :=
 uL (vlen (ug L 0)) λt11 =>
 uB .gtr t11 (uc 0) λt12 =>
 M.ite t12
 (M.blk 1 (
 uL (Ax.iaddr none 1 (ug L 0) (uc 0)) λt14 =>
 uM t14 λt15 =>
 uB .eql t15 (ub 0) λt16 =>
 M.ite t16
 (uL (zaU .sl 1 (ug L 0) (some (uc 1)) none none) λt18 =>
 M.pure (.ex 1 [t18,(ug L 1)]))
 (uB .eql t0 (uc 48862) λt20 =>
 uG t20 true (M.pure (ug L 0)) λt22 =>
 uH t20 true (Ax.iaddr none 1 t22 (uc 0)) λt23 =>
 uG t20 true (mload none t23) λt24 =>
 uH t20 true (Ax.bin .shr t24 (uq 4)) λt25 =>
 uH t20 true (Ax.bin .eql t25 (ub 15)) λt26 =>
 uL (Ax.pick t20 t26 (V.bool false)) λt27 =>
 M.ite t27
 (M.pure (.ex 0 [(ug L 1)]))
 ((G zeA [t0,(ug L 0)]).bind λt31 =>
 uE 0 t31 λt32 =>
 uE 1 t31 λt33 =>
 uE 2 t31 λt34 =>
 uO zbJ (V.agg [(uc 0),V.nils]) λt7 =>
 uT 2 t7 t32 λ_ =>
 uL (Ax.un .not t34) λt36 =>
 M.ite t36
 (M.pure (.ret [V.nils,(V.bool false)]))
 (uS 2 t7 λt38 =>
 (mslit zbJ 1 [(uc 0),V.nils] [(0,2,t38)]).bind λt39 =>
 (mappend zbJ 2 32 (ug L 1) t39).bind λt40 =>
 uL (zaU .sl 1 (ug L 0) (some t33) none none) λt43 =>
 M.pure (.nrm [t43,t40]))))) λL0 =>
 M.pure (.nrm [(ug L0 0),(ug L0 1)]))
 (M.pure (.ex 0 [(ug L 1)]))
def zn0(G:Sem')(t0 t1:V):M Res :=
 M.blk 0 (
 M.iter (zkZ G t0) [t1,V.nils]) λL1 =>
 M.pure (.ret [(ug L1 0),(V.bool true)])
theorem zq9{t0 t1:V}:OkT zfz [t0,t1] (zn0 (sem T) t0 t1):=okT (by kernel_rfl) (by kernel_rfl) (by kernel_rfl)
def zjM(G:Sem')(t0 t1:V):M Res :=
 uO zbJ (V.agg [(uc 0),V.nils]) λt4 =>
 uIM none 1 t1 (uc 0) λt12 =>
 uL (Ax.cint .i64 t12) λt13 =>
 uL (Ax.build [(uc 0),V.nils] [(0,1,t13)]) λt14 =>
 uO zbJ (V.agg [(uc 0),V.nils]) λt7 =>
 uT 2 t7 t14 λ_ =>
 uB .eql t0 (uc 48862) λt16 =>
 M.join (M.ite t16
 (uIM none 1 t1 (uc 0) λt19 =>
 uB .shr t19 (uq 4) λt20 =>
 uL (Ax.cint .i64 t20) λt21 =>
 uF 0 t7 λt22 =>
 uT 1 t22 t21 λ_ =>
 uIM none 1 t1 (uc 0) λt25 =>
 uB .and t25 (ub 15) λt26 =>
 uL (Ax.cint .i64 t26) λt27 =>
 uB .add t27 (uc 1) λt28 =>
 M.pure (.nrm [(uc 1),t28]))
 (uL (vlen t1) λt30 =>
 uB .gtr t30 (uc 1) λt31 =>
 M.join (M.ite t31
 (uIM none 1 t1 (uc 1) λt34 =>
 uL (Ax.cint .i64 t34) λt35 =>
 M.pure (.nrm [t35]))
 (M.pure (.nrm [(uc 0)]))) λL0 =>
 M.pure (.nrm [(uc 2),(ug L0 0)]))) λL1 =>
 uFM 0 t7 λt37 =>
 uB .eql t37 (uc 0) λt38 =>
 uG t38 false (M.pure t1) λt40 =>
 uH t38 false (vlen t40) λt41 =>
 uG t38 false (M.pure (ug L1 0)) λt42 =>
 uG t38 false (M.pure (ug L1 1)) λt43 =>
 uH t38 false (Ax.bin .add t42 t43) λt44 =>
 uH t38 false (Ax.bin .lss t41 t44) λt45 =>
 uL (Ax.pick t38 (V.bool true) t45) λt46 =>
 M.ite t46
 (uL (Ax.build [(uc 0),V.nils] []) λt47 =>
 uT 2 t4 t47 λ_ =>
 uS 2 t4 λr0 =>
 M.pure (.ret [r0,(uc 0),(V.bool false)]))
 (uB .add (ug L1 0) (ug L1 1) λt52 =>
 uL (zaU .sl 1 t1 (some (ug L1 0)) (some t52) none) λt53 =>
 (G zbF [t53]).bind λt54 =>
 uF 1 t7 λt55 =>
 uT 1 t55 t54 λ_ =>
 uS 2 t7 λt56 =>
 uB .add (ug L1 0) (ug L1 1) λt59 =>
 uT 2 t4 t56 λ_ =>
 uS 2 t4 λr0 =>
 M.pure (.ret [r0,t59,(V.bool true)]))
theorem zne{t0 t1:V}:OkT zeA [t0,t1] (zjM (sem T) t0 t1):=okT (by kernel_rfl) (by kernel_rfl) (by kernel_rfl)
def zcs(G:Sem')(t15 t2:V)(L:List V):M Res :=
 uB .lss (ug L 0) (uc 3) λt17 =>
 M.ite t17
 (M.blk 1 (
 uL (Ax.index 3 11 (some 11) t15 (ug L 0)) λt19 =>
 uO zf8 (V.agg [(V.bool false),(V.int .u32 0),(uc 0),(uc 0),(uc 0),V.nils,(uc 0),V.nils,V.nils,(V.int .u32 0),V.nils]) λt9 =>
 uT 11 t9 t19 λ_ =>
 uFM 0 t9 λt21 =>
 uH t21 true (Ax.faddr 1 t9) λt23 =>
 uG t21 true (mload none t23) λt24 =>
 uG t21 true (M.pure t2) λt25 =>
 uH t21 true (Ax.bin .eql t24 t25) λt26 =>
 uL (Ax.pick t21 t26 (V.bool false)) λt27 =>
 M.ite t27
 (M.pure (.ret [(ug L 0),(V.bool true)]))
 (M.pure (.nrm []))) λ_ =>
 uB .add (ug L 0) (uc 1) λt29 =>
 M.pure (.nrm [t29]))
 (M.pure (.ex 0 []))
def zee(G:Sem')(t0 t1 t2:V):M Res :=
 uNF 39 t0 λt13 =>
 uI (some 8) 33 t13 t1 λt14 =>
 uS 33 t14 λt15 =>
 M.blk 0 (
 M.iter (zcs G t15 t2) [(uc 0)]) λ_ =>
 M.pure (.ret [(uc 0),(V.bool false)])
theorem zfu{t0 t1 t2:V}:OkT zby [t0,t1,t2] (zee (sem T) t0 t1 t2):=okT (by kernel_rfl) (by kernel_rfl) (by kernel_rfl)
def ziH(G:Sem')(t0:V):M Res :=
 uL (vlen t0) λt13 =>
 uB .eql t13 (uc 0) λt14 =>
 M.ite t14
 (M.pure (.ret [(uq 0),(uq 0),(uc 0),(uc 3)]))
 (uIM none 1 t0 (uc 0) λt17 =>
 uB .shr t17 (uq 4) λt18 =>
 uIM none 1 t0 (uc 0) λt21 =>
 uB .and t21 (ub 15) λt22 =>
 (G zdy [t18]).bind λt24 =>
 uB .add (uc 1) t24 λt25 =>
 (G zdy [t22]).bind λt28 =>
 uB .add t25 t28 λt29 =>
 uL (vlen t0) λt31 =>
 uB .lss t31 t29 λt33 =>
 M.ite t33
 (M.pure (.ret [(uq 0),(uq 0),(uc 0),(uc 3)]))
 (uL (zaU .sl 1 t0 (some (uc 1)) (some t25) none) λt38 =>
 (G zcO [t18,t38]).bind λt39 =>
 uE 0 t39 λt40 =>
 uE 1 t39 λt41 =>
 uL (zaU .sl 1 t0 (some t25) (some t29) none) λt47 =>
 (G zcO [t22,t47]).bind λt48 =>
 uE 0 t48 λt49 =>
 uE 1 t48 λt50 =>
 uL (Ax.un .not t41) λt52 =>
 uG t52 false (M.pure t50) λt54 =>
 uH t52 false (Ax.un .not t54) λt55 =>
 uL (Ax.pick t52 (V.bool true) t55) λt56 =>
 M.ite t56
 (M.pure (.ret [(uq 0),(uq 0),(uc 0),(uc 2)]))
 (M.pure (.ret [t40,t49,t29,(uc 0)]))))
theorem zmf{t0:V}:OkT zeb [t0] (ziH (sem T) t0):=okT (by kernel_rfl) (by kernel_rfl) (by kernel_rfl)
def zjQ(G:Sem')(t0:V):M Res :=
 uB .and t0 (ub 8) λt4 =>
 uB .eql t4 (ub 0) λt5 =>
 M.ite t5
 (M.pure (.ret [(uc 0)]))
 (uB .and t0 (ub 7) λt7 =>
 uL (Ax.cint .i64 t7) λt8 =>
 uB .add t8 (uc 1) λt9 =>
 M.pure (.ret [t9]))
theorem zni{t0:V}:OkT zdy [t0] (zjQ (sem T) t0):=okT (by kernel_rfl) (by kernel_rfl) (by kernel_rfl)
def zeu(G:Sem')(t15 t14 t4 t5:V)(L:List V):M Res :=
 uB .lss (ug L 1) t15 λt17 =>
 M.ite t17
 (M.blk 1 (
 uIM none 1 t14 (ug L 1) λt19 =>
 uB .shl (ug L 0) (uq 8) λt21 =>
 uL (Ax.cint .u64 t19) λt23 =>
 uB .or t21 t23 λt24 =>
 M.pure (.nrm [t24])) λL0 =>
 uB .add (ug L 1) (uc 1) λt25 =>
 M.pure (.nrm [(ug L0 0),t25]))
 (M.pure (.ex 0 [(ug L 0)]))
def zh8(G:Sem')(t0 t1:V):M Res :=
 uB .and t0 (ub 8) λt10 =>
 uB .eql t10 (ub 0) λt11 =>
 M.ite t11
 (uL (Ax.cint .u64 t0) λt13 =>
 M.pure (.ret [t13,(V.bool true)]))
 (uL (vlen t1) λt15 =>
 M.blk 0 (
 M.iter (zeu G t15 t1 (uq 0) (V.bool false)) [(uq 0),(uc 0)]) λL1 =>
 uIM none 1 t1 (uc 0) λt29 =>
 uB .neq t29 (ub 0) λt30 =>
 uG t30 true (M.pure (ug L1 0)) λt32 =>
 uH t30 true (Ax.bin .geq t32 (uq 8)) λt33 =>
 uL (Ax.pick t30 t33 (V.bool false)) λt34 =>
 M.pure (.ret [(ug L1 0),t34]))
theorem zlh{t0 t1:V}:OkT zcO [t0,t1] (zh8 (sem T) t0 t1):=okT (by kernel_rfl) (by kernel_rfl) (by kernel_rfl)
def zmN(G:Sem')(t0:V):M Res :=
 uB .geq t0 (uq 16777216) λt7 =>
 M.ite t7
 (M.pure (.ret [(uc 0),(uc 0),(uc 0),(V.bool false)]))
 (uB .quo t0 (uq 256) λt9 =>
 uL (Ax.cint .i64 t9) λt10 =>
 uB .rem t0 (uq 256) λt12 =>
 uB .quo t12 (uq 8) λt13 =>
 uL (Ax.cint .i64 t13) λt14 =>
 uB .rem t0 (uq 8) λt16 =>
 uL (Ax.cint .i64 t16) λt17 =>
 M.pure (.ret [t10,t14,t17,(V.bool true)]))
theorem zp3{t0:V}:OkT zf4 [t0] (zmN (sem T) t0):=okT (by kernel_rfl) (by kernel_rfl) (by kernel_rfl)
def zn2(G:Sem')(t0 t1:V):M Res :=
 uO zaC t0 λt2 =>
 uS 10 t2 λt7 =>
 (G zjB [t7,t1]).bind λt9 =>
 uB .lss t9 (uc 0) λt11 =>
 M.ite t11
 (M.pure (.ret [V.nils,(V.bool false)]))
 (uFM 7 t2 λt13 =>
 uI none 2 t13 t9 λt15 =>
 uFM 1 t15 λt17 =>
 (G zbF [t17]).bind λt18 =>
 M.pure (.ret [t18,(V.bool true)]))
theorem zrb{t0 t1:V}:OkT zg5 [t0,t1] (zn2 (sem T) t0 t1):=okT (by kernel_rfl) (by kernel_rfl) (by kernel_rfl)
def zsp(G:Sem')(t0 t1:V):M Res :=
 uO zaC t0 λt2 =>
 uO zfn t1 λt3 =>
 uFM 7 t2 λt6 =>
 (M.pure (.fn zg4 [t3])).bind λt7 =>
 (G zaZ [t6,t7]).bind λt8 =>
 M.pure (.ret [t8])
theorem zvt{t0 t1:V}:OkT zjB [t0,t1] (zsp (sem T) t0 t1):=okT (by kernel_rfl) (by kernel_rfl) (by kernel_rfl)
def zn1(G:Sem')(t0 t1:V):M Res :=
 uO zbJ t0 λt2 =>
 uFM 0 t2 λt5 =>
 uM t1 λt6 =>
 uB .eql t5 t6 λt7 =>
 M.pure (.ret [t7])
theorem zra{t0 t1:V}:OkT zg4 [t0,t1] (zn1 (sem T) t0 t1):=okT (by kernel_rfl) (by kernel_rfl) (by kernel_rfl)
def zbd(G:Sem')(t7 t1 t0:V)(L:List V):M Res :=
 uB .lss (ug L 0) t7 λt9 =>
 M.ite t9
 (M.blk 1 (
 uI none 2 t0 (ug L 0) λt14 =>
 uS 2 t14 λt15 =>
 (callv G t1 [t15]).bind λt16 =>
 M.ite t16
 (M.pure (.ret [(ug L 0)]))
 (M.pure (.nrm []))) λ_ =>
 uB .add (ug L 0) (uc 1) λt18 =>
 M.pure (.nrm [t18]))
 (M.pure (.ex 0 []))
def zb4(G:Sem')(t0 t1:V):M Res :=
 uL (vlen t0) λt7 =>
 M.blk 0 (
 M.iter (zbd G t7 t1 t0) [(uc 0)]) λ_ =>
 M.pure (.ret [(uc (-1))])
theorem zdG{t0 t1:V}:OkT zaZ [t0,t1] (zb4 (sem T) t0 t1):=okT (by kernel_rfl) (by kernel_rfl) (by kernel_rfl)
def zfw:Fn':=irOf zbt
def zlv(G:Sem')(t6 t4:V)(_:List V):M Res :=
 uNFM 1 t6 λt125 =>
 uB .eql t125 (uc 0) λt126 =>
 uG t126 true (M.pure t6) λt128 =>
 uH t126 true (Ax.nilck t128) λt129 =>
 uH t126 true (Ax.faddr 0 t129) λt130 =>
 uG t126 true (mload none t130) λt131 =>
 uG t126 true (G zfE [t131]) λt132 =>
 uH t126 true (Ax.bin .gtr t132 (uc 0)) λt133 =>
 uL (Ax.pick t126 t133 (V.bool false)) λt134 =>
 M.ite t134
 (M.blk 2 (
 (G zaV [t6]).bind λt136 =>
 M.join (M.ite t136
 ((G zdb [t6,(uc 2)]).bind λt138 =>
 M.pure (.nrm []))
 (M.pure (.nrm []))) λ_ =>
 M.pure (.nrm [])) λ_ =>
 M.pure (.nrm []))
 (M.pure (.ex 1 []))
def zgp(G:Sem')(t0 t1:V):M Res :=
 let p:=V.int .u32 0
 uO zfo t1 λt3 =>
 uO zfp (V.agg [(V.bool false),(V.bool false),(uc 0),(V.int .u16 0),(V.bool false),(uc 0),(uc 0),V.nils,(uc 0),V.nils,V.nils,(V.bool false),p,(V.bool false),(V.bool false),(V.bool false),V.nils,V.nils,V.nils]) λt4 =>
 (G zdc [t0]).bind λt12 =>
 uL (Ax.build [V.nilp,(uc 0)] [(0,1,t12)]) λt13 =>
 uO zlf t13 λt14 =>
 (G zaV [t14]).bind λt16 =>
 (G zaV [t14]).bind λt18 =>
 (G zcr [t14,(uc 6)]).bind λt20 =>
 (G zcr [t14,(uc 16)]).bind λt22 =>
 uL (Ax.cint .u16 t22) λt23 =>
 uL (Ax.build [(V.bool false),(V.bool false),(uc 0),(V.int .u16 0),(V.bool false),(uc 0),(uc 0),V.nils,(uc 0),V.nils,V.nils,(V.bool false),p,(V.bool false),(V.bool false),(V.bool false),V.nils,V.nils,V.nils] [(0,1,t16),(1,1,t18),(2,1,t20),(3,1,t23)]) λt24 =>
 uO zfp (V.agg [(V.bool false),(V.bool false),(uc 0),(V.int .u16 0),(V.bool false),(uc 0),(uc 0),V.nils,(uc 0),V.nils,V.nils,(V.bool false),p,(V.bool false),(V.bool false),(V.bool false),V.nils,V.nils,V.nils]) λt7 =>
 uT 19 t7 t24 λ_ =>
 uL (vlen t0) λt26 =>
 uB .gtr t26 (uc 3) λt27 =>
 M.join (M.ite t27
 ((G zaV [t14]).bind λt29 =>
 (G zaV [t14]).bind λt31 =>
 uF 4 t7 λt32 =>
 uT 1 t32 t29 λ_ =>
 uF 11 t7 λt33 =>
 uT 1 t33 t31 λ_ =>
 (G zaV [t14]).bind λt35 =>
 (G zaV [t14]).bind λt37 =>
 (G zaV [t14]).bind λt39 =>
 uF 13 t7 λt40 =>
 uT 1 t40 t35 λ_ =>
 uF 14 t7 λt41 =>
 uT 1 t41 t37 λ_ =>
 uF 15 t7 λt42 =>
 uT 1 t42 t39 λ_ =>
 M.pure (.nrm []))
 (M.pure (.nrm []))) λ_ =>
 M.blk 0 (
 uNFM 1 t14 λt47 =>
 uB .neq t47 (uc 0) λt48 =>
 M.ite t48
 (uL (Ax.build [(V.bool false),(V.bool false),(uc 0),(V.int .u16 0),(V.bool false),(uc 0),(uc 0),V.nils,(uc 0),V.nils,V.nils,(V.bool false),p,(V.bool false),(V.bool false),(V.bool false),V.nils,V.nils,V.nils] []) λt49 =>
 uNF 1 t14 λt52 =>
 uM t52 λt53 =>
 M.getH.bind λh0 =>
 uT 19 t4 t49 λ_ =>
 M.getH.bind λh0' =>
 uU t52 h0 h0' λ_ =>
 uS 19 t4 λr0 =>
 M.pure (.ret [r0,t53]))
 (uFM 4 t7 λt56 =>
 M.join (M.ite t56
 ((G zdp [t14]).bind λt58 =>
 uF 5 t7 λt59 =>
 uT 6 t59 t58 λ_ =>
 M.pure (.nrm []))
 (uS 6 t3 λt61 =>
 (G ziD [t61]).bind λt62 =>
 uL (Ax.un .not t62) λt63 =>
 M.ite t63
 (uL (Ax.build [(V.bool false),(V.bool false),(uc 0),(V.int .u16 0),(V.bool false),(uc 0),(uc 0),V.nils,(uc 0),V.nils,V.nils,(V.bool false),p,(V.bool false),(V.bool false),(V.bool false),V.nils,V.nils,V.nils] []) λt64 =>
 uT 19 t4 t64 λ_ =>
 uS 19 t4 λr0 =>
 M.pure (.ret [r0,(uc 2)]))
 (M.pure (.nrm [])))) λ_ =>
 M.pure (.nrm []))) λ_ =>
 uS 19 t7 λt65 =>
 uS 6 t3 λt66 =>
 (G zh5 [t65,t66]).bind λt67 =>
 uO zfo (V.agg [(uc 0),(uc 0),V.nils,(uc 0),V.nils,V.nils]) λt8 =>
 uT 6 t8 t67 λ_ =>
 uFM 11 t7 λt69 =>
 uG t69 true (M.pure t14) λt71 =>
 uH t69 true (Ax.nilck t71) λt72 =>
 uH t69 true (Ax.faddr 1 t72) λt73 =>
 uG t69 true (mload none t73) λt74 =>
 uH t69 true (Ax.bin .eql t74 (uc 0)) λt75 =>
 uL (Ax.pick t69 t75 (V.bool false)) λt76 =>
 M.join (M.ite t76
 (uFM 1 t8 λt79 =>
 (G zcr [t14,t79]).bind λt80 =>
 uL (Ax.cint .u32 t80) λt81 =>
 uF 12 t7 λt82 =>
 uT 1 t82 t81 λ_ =>
 M.pure (.nrm []))
 (M.pure (.nrm []))) λ_ =>
 uS 6 t8 λt84 =>
 uFM 2 t7 λt86 =>
 (G zf5 [t84,t86]).bind λt87 =>
 uE 0 t87 λt88 =>
 uE 1 t87 λt89 =>
 uO zjb (V.agg [(uc 0),(uc 0),V.nils,V.nils,V.nils]) λt9 =>
 uT 5 t9 t88 λ_ =>
 uL (Ax.un .not t89) λt91 =>
 M.join (M.ite t91
 ((G zdb [t14,(uc 2)]).bind λt93 =>
 M.pure (.nrm []))
 (M.pure (.nrm []))) λ_ =>
 uFM 2 t9 λt95 =>
 uF 3 t9 λt96 =>
 uM t96 λt97 =>
 uF 4 t9 λt98 =>
 uM t98 λt99 =>
 uF 16 t7 λt100 =>
 M.getH.bind λh1 =>
 uT 1 t100 t95 λ_ =>
 M.getH.bind λh1' =>
 uU t98 h1 h1' λ_ =>
 uU t96 h1 h1' λ_ =>
 uF 17 t7 λt101 =>
 M.getH.bind λh2 =>
 uT 1 t101 t97 λ_ =>
 M.getH.bind λh2' =>
 uU t98 h2 h2' λ_ =>
 uF 18 t7 λt102 =>
 uT 1 t102 t99 λ_ =>
 uFM 13 t7 λt104 =>
 M.join (M.ite t104
 (uFM 1 t8 λt107 =>
 (G zda [t14,t107,(uc 2)]).bind λt108 =>
 uF 16 t7 λt109 =>
 uT 1 t109 t108 λ_ =>
 M.pure (.nrm []))
 (M.pure (.nrm []))) λ_ =>
 uFM 14 t7 λt111 =>
 M.join (M.ite t111
 ((G ze5 [t14]).bind λt113 =>
 uF 17 t7 λt114 =>
 uT 1 t114 t113 λ_ =>
 M.pure (.nrm []))
 (M.pure (.nrm []))) λ_ =>
 uFM 15 t7 λt116 =>
 M.join (M.ite t116
 (uFM 3 t8 λt119 =>
 (G zda [t14,t119,(uc 8)]).bind λt120 =>
 uF 18 t7 λt121 =>
 uT 1 t121 t120 λ_ =>
 M.pure (.nrm []))
 (M.pure (.nrm []))) λ_ =>
 M.blk 1 (
 M.iter (zlv G t14 t4) []) λ_ =>
 uNFM 1 t14 λt142 =>
 uB .neq t142 (uc 0) λt143 =>
 M.ite t143
 (uL (Ax.build [(V.bool false),(V.bool false),(uc 0),(V.int .u16 0),(V.bool false),(uc 0),(uc 0),V.nils,(uc 0),V.nils,V.nils,(V.bool false),p,(V.bool false),(V.bool false),(V.bool false),V.nils,V.nils,V.nils] []) λt144 =>
 uNF 1 t14 λt147 =>
 uM t147 λt148 =>
 M.getH.bind λh3 =>
 uT 19 t4 t144 λ_ =>
 M.getH.bind λh3' =>
 uU t147 h3 h3' λ_ =>
 uS 19 t4 λr0 =>
 M.pure (.ret [r0,t148]))
 (uS 19 t7 λt149 =>
 uT 19 t4 t149 λ_ =>
 uS 19 t4 λr0 =>
 M.pure (.ret [r0,(uc 0)]))
theorem zmP(G:Sem')(t0 t1:V):execK G zfw.rv zfw.body [] [] (params 0 [t0,t1])=zgp G t0 t1:=by kernel_rfl
theorem zlR:T zbt=some zfw:=by kernel_rfl
theorem zmh{t0 t1:V}:OkT zbt [t0,t1] (zgp (sem T) t0 t1):=okT (by kernel_rfl) (by kernel_rfl) (by kernel_rfl)
def zhT:Fn':=irOf zdc
def zi0(G:Sem')(t0:V):M Res :=
 (mappend zak 1 1 V.nils t0).bind λt4 =>
 uL (Ax.build [V.nils,(uc 0)] [(0,1,t4)]) λt5 =>
 uO znc t5 λt6 =>
 M.pure (.ret [t6])
theorem zqz(G:Sem')(t0:V):execK G zhT.rv zhT.body [] [] (params 0 [t0])=zi0 G t0:=by kernel_rfl
theorem zpB:T zdc=some zhT:=by kernel_rfl
theorem zp5{t0:V}:OkT zdc [t0] (zi0 (sem T) t0):=okT (by kernel_rfl) (by kernel_rfl) (by kernel_rfl)
end Go.Ax
/- FnS5 -/
namespace Go.Ax
open Go.Proofs
def zdL(G:Sem')(t8 t0 t1 t2 t7:V)(L:List V):M Res :=
 uB .lss (ug L 0) (uc 8) λt62 =>
 M.ite t62
 (M.blk 1 (
 uNF 303 t1 λt68 =>
 uI (some 8) 8 t68 (ug L 0) λt69 =>
 uIM (some 8) 1 t69 t2 λt71 =>
 uL (eqr .ptr false t71 V.nilp) λt73 =>
 uH t73 false (Ax.faddr 11 t7) λt75 =>
 uG t73 false (mload none t75) λt76 =>
 uG t73 false (M.pure t1) λt77 =>
 uG t73 false (M.pure (ug L 0)) λt78 =>
 uH t73 false (Ax.nilck t77) λt79 =>
 uH t73 false (Ax.faddr 0 t79) λt80 =>
 uH t73 false (Ax.faddr 30 t80) λt81 =>
 uH t73 false (Ax.iaddr (some 8) 1 t81 t78) λt82 =>
 uG t73 false (mload none t82) λt83 =>
 uH t73 false (Ax.bin .lss t76 t83) λt84 =>
 uL (Ax.pick t73 (V.bool true) t84) λt85 =>
 M.ite t85
 (M.pure (.ex 1 []))
 (uFM 10 t7 λt89 =>
 uF 0 t7 λt90 =>
 uS 10 t90 λt91 =>
 uF 12 t7 λt92 =>
 uS 19 t92 λt93 =>
 uNF 3 t8 λt96 =>
 uS 6 t96 λt97 =>
 uNFM 9 t8 λt101 =>
 uNFM 1468 t0 λt105 =>
 (G zf3 [t71,t89,t91,t93,t97,t101,t105]).bind λt106 =>
 uE 0 t106 λt107 =>
 uO zqX (V.agg [V.nils,(uc 0),(V.bool false)]) λt11 =>
 uT 3 t11 t107 λ_ =>
 uE 1 t106 λt108 =>
 M.blk 2 (
 uB .neq t108 (uc 0) λt111 =>
 M.join (M.ite t111
 (M.pure (.nrm []))
 (uFM 1 t11 λt114 =>
 uB .eql t114 (uc 0) λt115 =>
 M.join (M.ite t115
 (uNF 0 t1 λt120 =>
 uF 0 t120 λt121 =>
 uF 8 t121 λt122 =>
 uIM (some 8) 1 t122 (ug L 0) λt124 =>
 uFM 0 t11 λt126 =>
 (G zcA [t0,t124,(uc 1),t126]).bind λt127 =>
 M.pure (.nrm []))
 (uFM 2 t11 λt130 =>
 M.join (M.ite t130
 (uF 10 t7 λt134 =>
 uM t134 λt135 =>
 M.getH.bind λh0 =>
 (G zgy [t71]).bind λt137 =>
 M.getH.bind λh0' =>
 uU t134 h0 h0' λ_ =>
 (G zeO [t0,t1,t2,t135,t137]).bind λt138 =>
 M.pure (.nrm []))
 (M.pure (.nrm []))) λ_ =>
 M.pure (.nrm []))) λ_ =>
 M.pure (.nrm []))) λ_ =>
 M.pure (.nrm [])) λ_ =>
 M.pure (.nrm []))) λ_ =>
 uB .add (ug L 0) (uc 1) λt139 =>
 M.pure (.nrm [t139]))
 (M.pure (.ex 0 []))
def zgG(G:Sem')(t0 t1 t2 t3:V):M Res :=
 uO zdt t3 λt7 =>
 uFM 10 t7 λt16 =>
 uNF 39 t1 λt18 =>
 uI (some 8) 33 t18 t2 λt19 =>
 uI (some 3) 11 t19 t16 λt20 =>
 uNFM 10 t20 λt25 =>
 uF 0 t7 λt26 =>
 uFM 2 t26 λt28 =>
 (G zg7 [t25,t28]).bind λt29 =>
 uNF 10 t20 λt31 =>
 uT 1 t31 t29 λ_ =>
 uF 12 t7 λt32 =>
 uFM 4 t32 λt34 =>
 M.join (M.ite t34
 (uF 12 t7 λt36 =>
 uF 5 t36 λt37 =>
 uS 6 t37 λt38 =>
 uNF 3 t20 λt40 =>
 uT 6 t40 t38 λ_ =>
 uNF 3 t20 λt44 =>
 uFM 1 t44 λt46 =>
 uL (Ax.cint .u64 t46) λt47 =>
 uB .shl (V.int .u32 1) t47 λt48 =>
 uB .sub t48 (V.int .u32 1) λt49 =>
 uNF 9 t20 λt51 =>
 uT 1 t51 t49 λ_ =>
 M.pure (.nrm []))
 (M.pure (.nrm []))) λ_ =>
 uF 12 t7 λt52 =>
 uFM 11 t52 λt54 =>
 M.join (M.ite t54
 (uF 12 t7 λt56 =>
 uFM 12 t56 λt58 =>
 uNF 9 t20 λt60 =>
 uT 1 t60 t58 λ_ =>
 M.pure (.nrm []))
 (M.pure (.nrm []))) λ_ =>
 M.blk 0 (
 M.iter (zdL G t20 t0 t1 t2 t7) [(uc 0)]) λ_ =>
 M.pure (.ret [])
theorem zjk{t0 t1 t2 t3:V}:OkT zcW [t0,t1,t2,t3] (zgG (sem T) t0 t1 t2 t3):=okT (by kernel_rfl) (by kernel_rfl) (by kernel_rfl)
end Go.Ax
/- FnS6 -/
namespace Go.Ax
open Go.Proofs
def zcd(G:Sem')(t0 t1 t2:V):M Res :=
 (G zfj [t2]).bind λt13 =>
 uE 0 t13 λt14 =>
 uE 1 t13 λt15 =>
 uO zae (V.agg [(uc 0),(uc 0),(uc 0),(uc 0),(uc 0),(uc 0),V.nils]) λt6 =>
 uT 7 t6 t14 λ_ =>
 uB .eql t15 (uc 0) λt17 =>
 uH t17 true (Ax.faddr 0 t6) λt19 =>
 uG t17 true (mload none t19) λt20 =>
 uH t17 true (Ax.bin .gtr t20 (uc 9)) λt21 =>
 uL (Ax.pick t17 t21 (V.bool false)) λt22 =>
 M.join (M.ite t22
 (M.pure (.nrm [(uc 1)]))
 (M.pure (.nrm [t15]))) λL0 =>
 uB .neq (ug L0 0) (uc 0) λt24 =>
 M.ite t24
 ((G zc9 [t0,t1,(ug L0 0),(uc 0)]).bind λt28 =>
 M.pure (.ret []))
 ((G zch [t0,t1]).bind λt32 =>
 uE 0 t32 λt33 =>
 uE 1 t32 λt34 =>
 uE 2 t32 λt35 =>
 M.join (M.ite t35
 ((G zcj [t0,t33,t1]).bind λt40 =>
 M.pure (.nrm []))
 (M.pure (.nrm []))) λ_ =>
 M.blk 0 (
 uFM 0 t6 λt48 =>
 uB .eql t48 (uc 1) λt49 =>
 uG t49 true (M.pure t35) λt51 =>
 uL (Ax.pick t49 t51 (V.bool false)) λt52 =>
 M.join (M.ite t52
 (M.pure (.nrm [(uc 7)]))
 (uFM 0 t6 λt55 =>
 uB .eql t55 (uc 1) λt56 =>
 M.join (M.ite t56
 (uS 7 t6 λt59 =>
 (G zdm [t0,t1,t59]).bind λt60 =>
 M.pure (.nrm [t60]))
 (uL (Ax.un .not t35) λt63 =>
 M.join (M.ite t63
 (M.pure (.nrm [(uc 6)]))
 (uS 7 t6 λt44 =>
 (G zbU [t0,t33,t34,t44]).bind λt45 =>
 M.pure (.nrm [t45]))) λL2 =>
 M.pure (.nrm [(ug L2 0)]))) λL3 =>
 M.pure (.nrm [(ug L3 0)]))) λL4 =>
 M.pure (.nrm [(ug L4 0)])) λL5 =>
 uB .neq (ug L5 0) (uc 0) λt65 =>
 M.join (M.ite t65
 (uFM 0 t6 λt70 =>
 (G zc9 [t0,t1,(ug L5 0),t70]).bind λt71 =>
 M.pure (.nrm []))
 (M.pure (.nrm []))) λ_ =>
 M.pure (.ret []))
theorem zcw{t0 t1 t2:V}:OkT zaO [t0,t1,t2] (zcd (sem T) t0 t1 t2):=okT (by kernel_rfl) (by kernel_rfl) (by kernel_rfl)
def zk5(G:Sem')(t0:V):M Res :=
 uO zen t0 λt1 =>
 uO zae (V.agg [(uc 0),(uc 0),(uc 0),(uc 0),(uc 0),(uc 0),V.nils]) λt2 =>
 uM t1 λt8 =>
 uL (vlen t8) λt9 =>
 uB .lss t9 (uc 11) λt10 =>
 M.ite t10
 (uL (Ax.build [(uc 0),(uc 0),(uc 0),(uc 0),(uc 0),(uc 0),V.nils] []) λt11 =>
 uT 7 t2 t11 λ_ =>
 uS 7 t2 λr0 =>
 M.pure (.ret [r0,(uc 3)]))
 ((M.pure (.fn zbI [t1])).bind λt12 =>
 uM t1 λt13 =>
 uI none 1 t13 (uc 0) λt14 =>
 uM t14 λt15 =>
 uL (Ax.cint .i64 t15) λt16 =>
 uM t1 λt17 =>
 uI none 1 t17 (uc 1) λt18 =>
 uM t18 λt19 =>
 uL (Ax.cint .i64 t19) λt20 =>
 uM t1 λt21 =>
 uI none 1 t21 (uc 2) λt22 =>
 uM t22 λt23 =>
 uL (Ax.cint .i64 t23) λt24 =>
 M.getH.bind λh0 =>
 (callv G t12 [(uc 3)]).bind λt26 =>
 M.getH.bind λh0' =>
 uU t22 h0 h0' λ_ =>
 uU t1 h0 h0' λ_ =>
 uU t18 h0 h0' λ_ =>
 uU t1 h0 h0' λ_ =>
 uU t14 h0 h0' λ_ =>
 uU t1 h0 h0' λ_ =>
 M.getH.bind λh1 =>
 (callv G t12 [(uc 5)]).bind λt28 =>
 M.getH.bind λh1' =>
 uU t22 h1 h1' λ_ =>
 uU t1 h1 h1' λ_ =>
 uU t18 h1 h1' λ_ =>
 uU t1 h1 h1' λ_ =>
 uU t14 h1 h1' λ_ =>
 uU t1 h1 h1' λ_ =>
 M.getH.bind λh2 =>
 (callv G t12 [(uc 7)]).bind λt30 =>
 M.getH.bind λh2' =>
 uU t22 h2 h2' λ_ =>
 uU t1 h2 h2' λ_ =>
 uU t18 h2 h2' λ_ =>
 uU t1 h2 h2' λ_ =>
 uU t14 h2 h2' λ_ =>
 uU t1 h2 h2' λ_ =>
 uL (Ax.build [(uc 0),(uc 0),(uc 0),(uc 0),(uc 0),(uc 0),V.nils] [(0,1,t16),(1,1,t20),(2,1,t24),(3,1,t26),(4,1,t28),(5,1,t30)]) λt31 =>
 uO zae (V.agg [(uc 0),(uc 0),(uc 0),(uc 0),(uc 0),(uc 0),V.nils]) λt5 =>
 uT 7 t5 t31 λ_ =>
 uM t1 λt34 =>
 uL (zaU .sl 1 t34 (some (uc 11)) none none) λt35 =>
 M.getH.bind λh3 =>
 (callv G t12 [(uc 9)]).bind λt33 =>
 M.getH.bind λh3' =>
 uU t1 h3 h3' λ_ =>
 M.blk 0 (
 uB .gtr t33 (uc 200) λt38 =>
 M.ite t38
 (uL (Ax.build [(uc 0),(uc 0),(uc 0),(uc 0),(uc 0),(uc 0),V.nils] []) λt39 =>
 uT 7 t2 t39 λ_ =>
 uS 7 t2 λr0 =>
 M.pure (.ret [r0,(uc 4)]))
 (uL (vlen t35) λt43 =>
 uB .gtr t33 t43 λt44 =>
 M.ite t44
 (uL (Ax.build [(uc 0),(uc 0),(uc 0),(uc 0),(uc 0),(uc 0),V.nils] []) λt45 =>
 uT 7 t2 t45 λ_ =>
 uS 7 t2 λr0 =>
 M.pure (.ret [r0,(uc 3)]))
 (uL (vlen t35) λt49 =>
 uB .lss t33 t49 λt50 =>
 M.ite t50
 (uL (Ax.build [(uc 0),(uc 0),(uc 0),(uc 0),(uc 0),(uc 0),V.nils] []) λt51 =>
 uT 7 t2 t51 λ_ =>
 uS 7 t2 λr0 =>
 M.pure (.ret [r0,(uc 2)]))
 (M.pure (.nrm []))))) λ_ =>
 (G zbF [t35]).bind λt53 =>
 uF 6 t5 λt54 =>
 uT 1 t54 t53 λ_ =>
 uS 7 t5 λt55 =>
 (G zc8 [t55]).bind λt56 =>
 uL (Ax.un .not t56) λt57 =>
 M.ite t57
 (uL (Ax.build [(uc 0),(uc 0),(uc 0),(uc 0),(uc 0),(uc 0),V.nils] []) λt58 =>
 uT 7 t2 t58 λ_ =>
 uS 7 t2 λr0 =>
 M.pure (.ret [r0,(uc 2)]))
 (uS 7 t5 λt59 =>
 uT 7 t2 t59 λ_ =>
 uS 7 t2 λr0 =>
 M.pure (.ret [r0,(uc 0)])))
theorem zoN{t0:V}:OkT zfj [t0] (zk5 (sem T) t0):=okT (by kernel_rfl) (by kernel_rfl) (by kernel_rfl)
def ziG(G:Sem')(t0 t1:V):M Res :=
 uM t1 λt4 =>
 uIM none 1 t4 t0 λt7 =>
 uL (Ax.cint .i64 t7) λt8 =>
 uB .shl t8 (uq 8) λt9 =>
 uM t1 λt10 =>
 uB .add t0 (uc 1) λt12 =>
 uIM none 1 t10 t12 λt14 =>
 uL (Ax.cint .i64 t14) λt15 =>
 uB .or t9 t15 λt16 =>
 M.pure (.ret [t16])
theorem zme{t0 t1:V}:OkT zbI [t0,t1] (ziG (sem T) t0 t1):=okT (by kernel_rfl) (by kernel_rfl) (by kernel_rfl)
def zfI(G:Sem')(t0:V):M Res :=
 uO zae t0 λt1 =>
 uFM 0 t1 λt7 =>
 (G zio [t7]).bind λt8 =>
 uE 0 t8 λt9 =>
 uE 1 t8 λt10 =>
 uO zez (V.agg [(uc 0),(uc 0),(uc 0),(uc 0),(uc 0),(uc 0),(uc 0)]) λt3 =>
 uT 7 t3 t9 λ_ =>
 uL (Ax.un .not t10) λt12 =>
 uH t12 false (Ax.faddr 1 t1) λt14 =>
 uG t12 false (mload none t14) λt15 =>
 uH t12 false (Ax.faddr 0 t3) λt16 =>
 uG t12 false (mload none t16) λt17 =>
 uG t12 false (G zbE [t15,t17]) λt18 =>
 uH t12 false (Ax.un .not t18) λt19 =>
 uL (Ax.pick t12 (V.bool true) t19) λt20 =>
 uH t20 false (Ax.faddr 2 t1) λt22 =>
 uG t20 false (mload none t22) λt23 =>
 uH t20 false (Ax.faddr 1 t3) λt24 =>
 uG t20 false (mload none t24) λt25 =>
 uG t20 false (G zbE [t23,t25]) λt26 =>
 uH t20 false (Ax.un .not t26) λt27 =>
 uL (Ax.pick t20 (V.bool true) t27) λt28 =>
 uH t28 false (Ax.faddr 3 t1) λt30 =>
 uG t28 false (mload none t30) λt31 =>
 uH t28 false (Ax.faddr 2 t3) λt32 =>
 uG t28 false (mload none t32) λt33 =>
 uG t28 false (G zbE [t31,t33]) λt34 =>
 uH t28 false (Ax.un .not t34) λt35 =>
 uL (Ax.pick t28 (V.bool true) t35) λt36 =>
 uH t36 false (Ax.faddr 4 t1) λt38 =>
 uG t36 false (mload none t38) λt39 =>
 uH t36 false (Ax.faddr 3 t3) λt40 =>
 uG t36 false (mload none t40) λt41 =>
 uG t36 false (G zbE [t39,t41]) λt42 =>
 uH t36 false (Ax.un .not t42) λt43 =>
 uL (Ax.pick t36 (V.bool true) t43) λt44 =>
 uH t44 false (Ax.faddr 5 t1) λt46 =>
 uG t44 false (mload none t46) λt47 =>
 uH t44 false (Ax.faddr 4 t3) λt48 =>
 uG t44 false (mload none t48) λt49 =>
 uG t44 false (G zbE [t47,t49]) λt50 =>
 uH t44 false (Ax.un .not t50) λt51 =>
 uL (Ax.pick t44 (V.bool true) t51) λt52 =>
 uH t52 false (Ax.faddr 6 t1) λt54 =>
 uG t52 false (mload none t54) λt55 =>
 uH t52 false (vlen t55) λt56 =>
 uH t52 false (Ax.faddr 5 t3) λt57 =>
 uG t52 false (mload none t57) λt58 =>
 uH t52 false (Ax.bin .lss t56 t58) λt59 =>
 uL (Ax.pick t52 (V.bool true) t59) λt60 =>
 uH t60 false (Ax.faddr 6 t1) λt62 =>
 uG t60 false (mload none t62) λt63 =>
 uH t60 false (vlen t63) λt64 =>
 uH t60 false (Ax.faddr 6 t3) λt65 =>
 uG t60 false (mload none t65) λt66 =>
 uH t60 false (Ax.bin .gtr t64 t66) λt67 =>
 uL (Ax.pick t60 (V.bool true) t67) λt68 =>
 M.ite t68
 (M.pure (.ret [(V.bool false)]))
 (uFM 0 t1 λt70 =>
 M.blk 0 (
 uB .eql t70 (uc 17) λt72 =>
 M.ite t72
 (uS 7 t1 λt73 =>
 (G zd9 [t73]).bind λt74 =>
 M.pure (.ret [t74]))
 (uB .eql t70 (uc 18) λt76 =>
 M.ite t76
 (uFM 4 t1 λt78 =>
 uB .geq t78 (uc 1) λt79 =>
 M.pure (.ret [t79]))
 (uB .eql t70 (uc 19) λt81 =>
 M.ite t81
 (uFM 4 t1 λt83 =>
 uFM 2 t1 λt85 =>
 uB .shr t83 t85 λt86 =>
 uB .and t86 (uc 1) λt87 =>
 uB .eql t87 (uc 1) λt88 =>
 M.pure (.ret [t88]))
 (uB .eql t70 (uc 20) λt90 =>
 M.ite t90
 (uFM 4 t1 λt92 =>
 uFM 2 t1 λt94 =>
 uB .shr t92 t94 λt95 =>
 uB .and t95 (uc 1) λt96 =>
 uB .eql t96 (uc 0) λt97 =>
 M.pure (.ret [t97]))
 (M.pure (.nrm [])))))) λ_ =>
 M.pure (.ret [(V.bool true)]))
theorem zfU{t0:V}:OkT zc8 [t0] (zfI (sem T) t0):=okT (by kernel_rfl) (by kernel_rfl) (by kernel_rfl)
def zqw(G:Sem')(t0:V):M Res :=
 uO zez (V.agg [(uc 0),(uc 0),(uc 0),(uc 0),(uc 0),(uc 0),(uc 0)]) λt2 =>
 M.blk 0 (
 uB .eql t0 (uc 1) λt6 =>
 M.ite t6
 (uL (Ax.build [(uc 0),(uc 0),(uc 0),(uc 0),(uc 0),(uc 0),(uc 0)] [(0,1,(uc 3))]) λt7 =>
 uT 7 t2 t7 λ_ =>
 uS 7 t2 λr0 =>
 M.pure (.ret [r0,(V.bool true)]))
 (uB .eql t0 (uc 2) λt9 =>
 M.join (M.ite t9
 (M.pure (.nrm [t9]))
 (uB .eql t0 (uc 9) λt10 =>
 M.join (M.ite t10
 (M.pure (.nrm [t10]))
 (uB .eql t0 (uc 23) λt11 =>
 M.pure (.nrm [t11]))) λL0 =>
 M.pure (.nrm [(ug L0 0)]))) λL1 =>
 M.ite (ug L1 0)
 (uL (Ax.build [(uc 0),(uc 0),(uc 0),(uc 0),(uc 0),(uc 0),(uc 0)] []) λt12 =>
 uT 7 t2 t12 λ_ =>
 uS 7 t2 λr0 =>
 M.pure (.ret [r0,(V.bool true)]))
 (uB .eql t0 (uc 3) λt14 =>
 M.join (M.ite t14
 (M.pure (.nrm [t14]))
 (uB .eql t0 (uc 6) λt15 =>
 M.pure (.nrm [t15]))) λL2 =>
 M.ite (ug L2 0)
 (uL (Ax.build [(uc 0),(uc 0),(uc 0),(uc 0),(uc 0),(uc 0),(uc 0)] [(1,1,(uc 7))]) λt16 =>
 uT 7 t2 t16 λ_ =>
 uS 7 t2 λr0 =>
 M.pure (.ret [r0,(V.bool true)]))
 (uB .eql t0 (uc 4) λt18 =>
 M.ite t18
 (uL (Ax.build [(uc 0),(uc 0),(uc 0),(uc 0),(uc 0),(uc 0),(uc 0)] [(3,1,(uc 2)),(4,1,(uc 65535)),(5,1,(uc 4)),(6,1,(uc 4))]) λt19 =>
 uT 7 t2 t19 λ_ =>
 uS 7 t2 λr0 =>
 M.pure (.ret [r0,(V.bool true)]))
 (uB .eql t0 (uc 5) λt21 =>
 M.ite t21
 (uL (Ax.build [(uc 0),(uc 0),(uc 0),(uc 0),(uc 0),(uc 0),(uc 0)] [(1,1,(uc 7)),(3,1,(uc 3)),(4,1,(uc 7))]) λt22 =>
 uT 7 t2 t22 λ_ =>
 uS 7 t2 λr0 =>
 M.pure (.ret [r0,(V.bool true)]))
 (uB .eql t0 (uc 7) λt24 =>
 M.join (M.ite t24
 (M.pure (.nrm [t24]))
 (uB .eql t0 (uc 21) λt25 =>
 M.pure (.nrm [t25]))) λL3 =>
 M.ite (ug L3 0)
 (uL (Ax.build [(uc 0),(uc 0),(uc 0),(uc 0),(uc 0),(uc 0),(uc 0)] [(1,1,(uc 7)),(2,1,(uc 65535)),(3,1,(uc 31)),(5,1,(uc 1)),(6,1,(uc 200))]) λt26 =>
 uT 7 t2 t26 λ_ =>
 uS 7 t2 λr0 =>
 M.pure (.ret [r0,(V.bool true)]))
 (uB .eql t0 (uc 8) λt28 =>
 M.join (M.ite t28
 (M.pure (.nrm [t28]))
 (uB .eql t0 (uc 22) λt29 =>
 M.pure (.nrm [t29]))) λL4 =>
 M.ite (ug L4 0)
 (uL (Ax.build [(uc 0),(uc 0),(uc 0),(uc 0),(uc 0),(uc 0),(uc 0)] [(2,1,(uc 65535))]) λt30 =>
 uT 7 t2 t30 λ_ =>
 uS 7 t2 λr0 =>
 M.pure (.ret [r0,(V.bool true)]))
 (uB .eql t0 (uc 17) λt32 =>
 M.ite t32
 (uL (Ax.build [(uc 0),(uc 0),(uc 0),(uc 0),(uc 0),(uc 0),(uc 0)] [(0,1,(uc 3)),(1,1,(uc 7)),(2,1,(uc 65535)),(3,1,(uc 255)),(4,1,(uc 65535)),(5,1,(uc 8)),(6,1,(uc 8))]) λt33 =>
 uT 7 t2 t33 λ_ =>
 uS 7 t2 λr0 =>
 M.pure (.ret [r0,(V.bool true)]))
 (uB .eql t0 (uc 18) λt35 =>
 M.ite t35
 (uL (Ax.build [(uc 0),(uc 0),(uc 0),(uc 0),(uc 0),(uc 0),(uc 0)] [(3,1,(uc 13)),(4,1,(uc 9))]) λt36 =>
 uT 7 t2 t36 λ_ =>
 uS 7 t2 λr0 =>
 M.pure (.ret [r0,(V.bool true)]))
 (uB .eql t0 (uc 19) λt38 =>
 M.ite t38
 (uL (Ax.build [(uc 0),(uc 0),(uc 0),(uc 0),(uc 0),(uc 0),(uc 0)] [(1,1,(uc 7)),(2,1,(uc 65535)),(3,1,(uc 255)),(4,1,(uc 63))]) λt39 =>
 uT 7 t2 t39 λ_ =>
 uS 7 t2 λr0 =>
 M.pure (.ret [r0,(V.bool true)]))
 (uB .eql t0 (uc 20) λt41 =>
 M.ite t41
 (uL (Ax.build [(uc 0),(uc 0),(uc 0),(uc 0),(uc 0),(uc 0),(uc 0)] [(1,1,(uc 7)),(2,1,(uc 65535)),(3,1,(uc 255))]) λt42 =>
 uT 7 t2 t42 λ_ =>
 uS 7 t2 λr0 =>
 M.pure (.ret [r0,(V.bool true)]))
 (uB .eql t0 (uc 24) λt44 =>
 M.ite t44
 (uL (Ax.build [(uc 0),(uc 0),(uc 0),(uc 0),(uc 0),(uc 0),(uc 0)] [(1,1,(uc 7)),(5,1,(uc 4)),(6,1,(uc 4))]) λt45 =>
 uT 7 t2 t45 λ_ =>
 uS 7 t2 λr0 =>
 M.pure (.ret [r0,(V.bool true)]))
 (M.pure (.nrm [])))))))))))))) λ_ =>
 uL (Ax.build [(uc 0),(uc 0),(uc 0),(uc 0),(uc 0),(uc 0),(uc 0)] []) λt46 =>
 uT 7 t2 t46 λ_ =>
 uS 7 t2 λr0 =>
 M.pure (.ret [r0,(V.bool false)])
theorem ztj{t0:V}:OkT zio [t0] (zqw (sem T) t0):=okT (by kernel_rfl) (by kernel_rfl) (by kernel_rfl)
def zjP(G:Sem')(t0 t1:V):M Res :=
 uB .geq t0 (uc 0) λt6 =>
 uG t6 true (M.pure t0) λt8 =>
 uG t6 true (M.pure t1) λt9 =>
 uH t6 true (Ax.bin .leq t8 t9) λt10 =>
 uL (Ax.pick t6 t10 (V.bool false)) λt11 =>
 M.pure (.ret [t11])
theorem znh{t0 t1:V}:OkT zbE [t0,t1] (zjP (sem T) t0 t1):=okT (by kernel_rfl) (by kernel_rfl) (by kernel_rfl)
def ze0(G:Sem')(t8 t7 t1:V)(L:List V):M Res :=
 uB .lss (ug L 0) t8 λt10 =>
 M.ite t10
 (M.blk 1 (
 uIM none 1 t7 (ug L 0) λt13 =>
 uFM 4 t1 λt15 =>
 uB .shr t15 (ug L 0) λt17 =>
 uB .and t17 (uc 1) λt18 =>
 uB .eql t18 (uc 1) λt19 =>
 uG t19 true (M.pure t13) λt22 =>
 uH t19 true (Ax.bin .gtr t22 (ub 63)) λt23 =>
 uL (Ax.pick t19 t23 (V.bool false)) λt24 =>
 uG t24 false (M.pure t19) λt26 =>
 uH t24 false (Ax.un .not t26) λt27 =>
 uG t24 false (M.pure t27) λt28 =>
 uG t28 true (M.pure t13) λt29 =>
 uH t28 true (Ax.bin .neq t29 (ub 255)) λt30 =>
 uH t24 false (Ax.pick t28 t30 (V.bool false)) λt31 =>
 uL (Ax.pick t24 (V.bool true) t31) λt32 =>
 M.ite t32
 (M.pure (.ret [(V.bool false)]))
 (M.pure (.nrm []))) λ_ =>
 uB .add (ug L 0) (uc 1) λt33 =>
 M.pure (.nrm [t33]))
 (M.pure (.ex 0 []))
def ziF(G:Sem')(t0:V):M Res :=
 uO zae t0 λt1 =>
 uFM 6 t1 λt7 =>
 uL (vlen t7) λt8 =>
 M.blk 0 (
 M.iter (ze0 G t8 t7 t1) [(uc 0)]) λ_ =>
 uFM 5 t1 λt35 =>
 uFM 3 t1 λt37 =>
 uB .geq t35 t37 λt38 =>
 uH t38 true (Ax.faddr 4 t1) λt40 =>
 uG t38 true (mload none t40) λt41 =>
 uH t38 true (Ax.faddr 2 t1) λt42 =>
 uG t38 true (mload none t42) λt43 =>
 uH t38 true (Ax.bin .shr t41 t43) λt44 =>
 uH t38 true (Ax.bin .and t44 (uc 1)) λt45 =>
 uH t38 true (Ax.bin .eql t45 (uc 1)) λt46 =>
 uL (Ax.pick t38 t46 (V.bool false)) λt47 =>
 M.pure (.ret [t47])
theorem zmd{t0:V}:OkT zd9 [t0] (ziF (sem T) t0):=okT (by kernel_rfl) (by kernel_rfl) (by kernel_rfl)
end Go.Ax
/- FnS7 -/
namespace Go.Ax
open Go.Proofs
def ziI(G:Sem')(t0 t1 t2 t3:V):M Res :=
 uL (Ax.build [(uc 0),(uc 0),(uc 0),(uc 0),(uc 0),(uc 0),V.nils] [(0,1,(uc 18)),(4,1,t2),(5,1,t3)]) λt12 =>
 (G zbw [t0,t1,t12]).bind λt13 =>
 M.pure (.ret [])
theorem zmg{t0 t1 t2 t3:V}:OkT zc9 [t0,t1,t2,t3] (ziI (sem T) t0 t1 t2 t3):=okT (by kernel_rfl) (by kernel_rfl) (by kernel_rfl)
def zfJ(G:Sem')(t0 t1 t2:V):M Res :=
 uO zae t2 λt5 =>
 uS 7 t5 λt9 =>
 (G zea [t9]).bind λt10 =>
 uE 0 t10 λt11 =>
 uE 1 t10 λt12 =>
 uB .eql t12 (uc 0) λt14 =>
 M.join (M.ite t14
 ((G zcA [t0,t1,(uc 2),t11]).bind λt18 =>
 M.pure (.nrm []))
 (M.pure (.nrm []))) λ_ =>
 M.pure (.ret [])
theorem zhn{t0 t1 t2:V}:OkT zbw [t0,t1,t2] (zfJ (sem T) t0 t1 t2):=okT (by kernel_rfl) (by kernel_rfl) (by kernel_rfl)
def zgo(G:Sem')(t30 t29 t2 t3:V)(L:List V):M Res :=
 uB .lss (ug L 1) t30 λt32 =>
 M.ite t32
 (M.blk 1 (
 uIM none 1 t29 (ug L 1) λt34 =>
 uB .shr t34 (uq 8) λt37 =>
 uL (Ax.cint .u8 t37) λt38 =>
 uL (Ax.cint .u8 t34) λt40 =>
 (mslit zak 2 [(ub 0)] [(0,1,t38),(1,1,t40)]).bind λt41 =>
 (mappend zak 1 1 (ug L 0) t41).bind λt42 =>
 M.pure (.nrm [t42])) λL0 =>
 uB .add (ug L 1) (uc 1) λt43 =>
 M.pure (.nrm [(ug L0 0),t43]))
 (M.pure (.ex 0 [(ug L 0)]))
def zk6(G:Sem')(t0:V):M Res :=
 uO zae t0 λt1 =>
 uS 7 t1 λt7 =>
 (G zc8 [t7]).bind λt8 =>
 uL (Ax.un .not t8) λt9 =>
 M.ite t9
 (M.pure (.ret [V.nils,(uc 1)]))
 (uFM 0 t1 λt11 =>
 uL (Ax.cint .u8 t11) λt12 =>
 uFM 1 t1 λt14 =>
 uL (Ax.cint .u8 t14) λt15 =>
 uFM 2 t1 λt17 =>
 uL (Ax.cint .u8 t17) λt18 =>
 (mslit zak 3 [(ub 0)] [(0,1,t12),(1,1,t15),(2,1,t18)]).bind λt19 =>
 uFM 3 t1 λt21 =>
 uFM 4 t1 λt23 =>
 uFM 5 t1 λt25 =>
 uFM 6 t1 λt27 =>
 uL (vlen t27) λt28 =>
 (mslit zfn 4 [(uc 0)] [(0,1,t21),(1,1,t23),(2,1,t25),(3,1,t28)]).bind λt29 =>
 uL (vlen t29) λt30 =>
 M.blk 0 (
 M.iter (zgo G t30 t29 V.nils (uc 0)) [t19,(uc 0)]) λL1 =>
 uFM 6 t1 λt46 =>
 (mappend zak 1 1 (ug L1 0) t46).bind λt47 =>
 M.pure (.ret [t47,(uc 0)]))
theorem zoO{t0:V}:OkT zea [t0] (zk6 (sem T) t0):=okT (by kernel_rfl) (by kernel_rfl) (by kernel_rfl)
def zef(G:Sem')(t47 t8 t6:V)(L:List V):M Res :=
 uB .lss (ug L 1) (uc 8) λt49 =>
 M.ite t49
 (M.blk 1 (
 uL (Ax.index 8 1 none t47 (ug L 1)) λt51 =>
 M.join (M.ite t51
 (uF 0 t8 λt55 =>
 uF 8 t55 λt56 =>
 uIM (some 8) 1 t56 (ug L 1) λt58 =>
 uL (Ax.cint .u8 t58) λt59 =>
 (mslit zak 1 [(ub 0)] [(0,1,t59)]).bind λt60 =>
 (mappend zak 1 1 (ug L 0) t60).bind λt61 =>
 M.pure (.nrm [t61]))
 ((mslit zak 1 [(ub 0)] [(0,1,(ub 255))]).bind λt63 =>
 (mappend zak 1 1 (ug L 0) t63).bind λt64 =>
 M.pure (.nrm [t64]))) λL0 =>
 M.pure (.nrm [(ug L0 0)])) λL1 =>
 uB .add (ug L 1) (uc 1) λt65 =>
 M.pure (.nrm [(ug L1 0),t65]))
 (M.pure (.ex 0 [(ug L 0)]))
def zhu(G:Sem')(t0 t1 t2:V):M Res :=
 uO zae t2 λt5 =>
 uFM 1 t5 λt17 =>
 uNF 0 t0 λt19 =>
 uI (some 4) 367 t19 t17 λt20 =>
 uNF 0 t20 λt24 =>
 uS 39 t24 λt25 =>
 uNFM 1468 t0 λt30 =>
 (G zf0 [t25,t1,t30]).bind λt31 =>
 uE 0 t31 λt32 =>
 uO zah (V.agg [(V.bool false),(V.bool false),(V.bool false),(V.bool false),(V.bool false),(V.bool false),(V.bool false),(V.bool false),(uc 0),(uc 0),(uc 0),(uc 0),(uc 0),(uc 0),(uc 0),(uc 0),(uc 0),(V.bool false),(uc 0),(uc 0),(uc 0),(uc 0),(uc 0),(uc 0),(uc 0),(uc 0),(uc 0),(uc 0),(uc 0),(uc 0),(uc 0),(uc 0),(uc 0),(uc 0),(uc 0),(uc 0),(uc 0),(uc 0),(V.bool false)]) λt8 =>
 uT 39 t8 t32 λ_ =>
 uE 1 t31 λt33 =>
 uE 2 t31 λt34 =>
 uB .neq t34 (uc 0) λt36 =>
 M.ite t36
 (M.pure (.ret [t34]))
 (uS 39 t8 λt39 =>
 uNF 0 t20 λt41 =>
 uT 39 t41 t39 λ_ =>
 uF 0 t8 λt42 =>
 uS 16 t42 λt43 =>
 (G zcI [t43]).bind λt44 =>
 uF 0 t8 λt45 =>
 uF 0 t45 λt46 =>
 uS 8 t46 λt47 =>
 M.blk 0 (
 M.iter (zef G t47 t8 (uc 0)) [V.nils,(uc 0)]) λL2 =>
 uF 1 t5 λt68 =>
 uM t68 λt69 =>
 uF 16 t8 λt71 =>
 uF 0 t71 λt72 =>
 uM t72 λt73 =>
 M.getH.bind λh0 =>
 (G zdz [t20]).bind λt76 =>
 M.getH.bind λh0' =>
 uU t72 h0 h0' λ_ =>
 uU t68 h0 h0' λ_ =>
 uL (Ax.build [(uc 0),(uc 0),(uc 0),(uc 0),(uc 0),(uc 0),V.nils] [(0,1,(uc 17)),(1,1,t69),(2,1,t33),(3,1,t73),(4,1,t44),(5,1,t76),(6,1,(ug L2 0))]) λt78 =>
 (G zbw [t0,t1,t78]).bind λt79 =>
 uF 16 t8 λt84 =>
 uFM 0 t84 λt86 =>
 uL (Ax.build [(uc 0),(uc 0),(uc 0),(uc 0),(uc 0),(uc 0),V.nils] [(0,1,(uc 19)),(2,1,t33),(3,1,t86),(4,1,t44),(5,1,t1)]) λt89 =>
 (G zcc [t0,t20,t33,t89]).bind λt90 =>
 M.pure (.ret [(uc 0)]))
theorem zki{t0 t1 t2:V}:OkT zdm [t0,t1,t2] (zhu (sem T) t0 t1 t2):=okT (by kernel_rfl) (by kernel_rfl) (by kernel_rfl)
def zmJ(G:Sem')(t0 t1 t2:V):M Res :=
 uO zah t0 λt3 =>
 uO zah (V.agg [(V.bool false),(V.bool false),(V.bool false),(V.bool false),(V.bool false),(V.bool false),(V.bool false),(V.bool false),(uc 0),(uc 0),(uc 0),(uc 0),(uc 0),(uc 0),(uc 0),(uc 0),(uc 0),(V.bool false),(uc 0),(uc 0),(uc 0),(uc 0),(uc 0),(uc 0),(uc 0),(uc 0),(uc 0),(uc 0),(uc 0),(uc 0),(uc 0),(uc 0),(uc 0),(uc 0),(uc 0),(uc 0),(uc 0),(uc 0),(V.bool false)]) λt6 =>
 M.blk 0 (
 uS 39 t3 λt14 =>
 (G zeM [t14]).bind λt15 =>
 uL (Ax.un .not t15) λt16 =>
 M.ite t16
 (uS 39 t3 λt17 =>
 uT 39 t6 t17 λ_ =>
 uS 39 t6 λr0 =>
 M.pure (.ret [r0,(uc 0),(uc 1)]))
 (uFM 38 t3 λt20 =>
 M.ite t20
 (uS 39 t3 λt21 =>
 uT 39 t6 t21 λ_ =>
 uS 39 t6 λr0 =>
 M.pure (.ret [r0,(uc 0),(uc 12)]))
 (M.pure (.nrm [])))) λ_ =>
 uF 0 t3 λt23 =>
 uS 16 t23 λt24 =>
 (G zfd [t24,t1]).bind λt26 =>
 uE 0 t26 λt27 =>
 uE 1 t26 λt28 =>
 uE 2 t26 λt29 =>
 uO zal (V.agg [(V.bool false),(V.bool false),(V.bool false),(V.bool false),(V.bool false),(V.bool false),(V.bool false),(V.bool false),(uc 0),(uc 0),(uc 0),(uc 0),(uc 0),(uc 0),(uc 0),(uc 0)]) λt9 =>
 uT 16 t9 t27 λ_ =>
 uB .neq t29 (uc 0) λt31 =>
 M.ite t31
 (uS 39 t3 λt32 =>
 uT 39 t6 t32 λ_ =>
 uS 39 t6 λr0 =>
 M.pure (.ret [r0,(uc 0),t29]))
 (uF 16 t3 λt35 =>
 uS 6 t35 λt36 =>
 (G zfh [t36,t28]).bind λt38 =>
 uE 0 t38 λt39 =>
 uE 1 t38 λt40 =>
 uO zaj (V.agg [(uc 0),(V.bool false),(uc 0),(uc 0),(uc 0),(uc 0)]) λt12 =>
 uT 6 t12 t39 λ_ =>
 uB .neq t40 (uc 0) λt42 =>
 M.ite t42
 (uS 39 t3 λt43 =>
 uT 39 t6 t43 λ_ =>
 uS 39 t6 λr0 =>
 M.pure (.ret [r0,(uc 0),t40]))
 (uS 16 t9 λt45 =>
 uS 6 t12 λt46 =>
 uF 0 t3 λt47 =>
 M.getH.bind λh0 =>
 uT 16 t47 t45 λ_ =>
 M.getH.bind λh0' =>
 uU t12 h0 h0' λ_ =>
 uF 16 t3 λt48 =>
 uT 6 t48 t46 λ_ =>
 uF 0 t12 λt52 =>
 uM t52 λt53 =>
 uF 22 t3 λt54 =>
 uI (some 8) 1 t54 t28 λt55 =>
 uF 30 t3 λt56 =>
 M.getH.bind λh1 =>
 uT 1 t55 t2 λ_ =>
 M.getH.bind λh1' =>
 uU t52 h1 h1' λ_ =>
 uI (some 8) 1 t56 t28 λt57 =>
 uT 1 t57 t53 λ_ =>
 uS 39 t3 λt58 =>
 uT 39 t6 t58 λ_ =>
 uS 39 t6 λr0 =>
 M.pure (.ret [r0,t28,(uc 0)])))
theorem zpZ{t0 t1 t2:V}:OkT zf0 [t0,t1,t2] (zmJ (sem T) t0 t1 t2):=okT (by kernel_rfl) (by kernel_rfl) (by kernel_rfl)
def zkU(G:Sem')(t0 t1:V):M Res :=
 uO zal t0 λt2 =>
 uO zal (V.agg [(V.bool false),(V.bool false),(V.bool false),(V.bool false),(V.bool false),(V.bool false),(V.bool false),(V.bool false),(uc 0),(uc 0),(uc 0),(uc 0),(uc 0),(uc 0),(uc 0),(uc 0)]) λt4 =>
 uS 16 t2 λt10 =>
 (G zcf [t10]).bind λt11 =>
 uL (Ax.un .not t11) λt12 =>
 uG t12 false (M.pure t1) λt14 =>
 uG t12 false (G zd5 [t14]) λt15 =>
 uH t12 false (Ax.un .not t15) λt16 =>
 uL (Ax.pick t12 (V.bool true) t16) λt17 =>
 M.ite t17
 (uS 16 t2 λt18 =>
 uT 16 t4 t18 λ_ =>
 uS 16 t4 λr0 =>
 M.pure (.ret [r0,(uc 0),(uc 1)]))
 (uS 16 t2 λt20 =>
 (G zdf [t20,t1]).bind λt22 =>
 uE 0 t22 λt23 =>
 uE 1 t22 λt24 =>
 M.ite t24
 (uS 16 t2 λt26 =>
 uT 16 t4 t26 λ_ =>
 uS 16 t4 λr0 =>
 M.pure (.ret [r0,(uc 0),(uc 7)]))
 (uF 0 t2 λt27 =>
 uL (zaU (.arr 8) 1 t27 none none none) λt28 =>
 (G zbC [t28,(V.bool false)]).bind λt29 =>
 uB .lss t29 (uc 0) λt31 =>
 M.ite t31
 (uS 16 t2 λt32 =>
 uT 16 t4 t32 λ_ =>
 uS 16 t4 λr0 =>
 M.pure (.ret [r0,(uc 0),(uc 5)]))
 (uF 0 t2 λt36 =>
 uI (some 8) 1 t36 t29 λt37 =>
 (mstore 1 t37 (V.bool true)).bind λ_ =>
 uF 8 t2 λt38 =>
 uI (some 8) 1 t38 t29 λt39 =>
 uT 1 t39 t1 λ_ =>
 uS 16 t2 λt40 =>
 uT 16 t4 t40 λ_ =>
 uS 16 t4 λr0 =>
 M.pure (.ret [r0,t29,(uc 0)]))))
theorem zoD{t0 t1:V}:OkT zfd [t0,t1] (zkU (sem T) t0 t1):=okT (by kernel_rfl) (by kernel_rfl) (by kernel_rfl)
def zca(G:Sem')(t7 t1 t0:V)(L:List V):M Res :=
 uB .lss (ug L 0) t7 λt9 =>
 M.ite t9
 (M.blk 1 (
 uIM none 1 t0 (ug L 0) λt15 =>
 uL (eqr .bool false t1 t15) λt16 =>
 M.ite t16
 (M.pure (.ret [(ug L 0)]))
 (M.pure (.nrm []))) λ_ =>
 uB .add (ug L 0) (uc 1) λt18 =>
 M.pure (.nrm [t18]))
 (M.pure (.ex 0 []))
def zdU(G:Sem')(t0 t1:V):M Res :=
 uL (vlen t0) λt7 =>
 M.blk 0 (
 M.iter (zca G t7 t1 t0) [(uc 0)]) λ_ =>
 M.pure (.ret [(uc (-1))])
theorem zge{t0 t1:V}:OkT zbC [t0,t1] (zdU (sem T) t0 t1):=okT (by kernel_rfl) (by kernel_rfl) (by kernel_rfl)
def zk3(G:Sem')(t0 t1:V):M Res :=
 uO zaj t0 λt2 =>
 uO zaj (V.agg [(uc 0),(V.bool false),(uc 0),(uc 0),(uc 0),(uc 0)]) λt4 =>
 M.blk 0 (
 uS 6 t2 λt7 =>
 (G zcK [t7]).bind λt8 =>
 uL (Ax.un .not t8) λt9 =>
 uG t9 false (M.pure t1) λt11 =>
 uG t9 false (G zd8 [t11]) λt12 =>
 uH t9 false (Ax.un .not t12) λt13 =>
 uL (Ax.pick t9 (V.bool true) t13) λt14 =>
 M.ite t14
 (uS 6 t2 λt15 =>
 uT 6 t4 t15 λ_ =>
 uS 6 t4 λr0 =>
 M.pure (.ret [r0,(uc 1)]))
 (uFM 1 t2 λt18 =>
 uL (Ax.un .not t18) λt19 =>
 M.ite t19
 (uS 6 t2 λt20 =>
 uT 6 t4 t20 λ_ =>
 uS 6 t4 λr0 =>
 M.pure (.ret [r0,(uc 0)]))
 (uFM 3 t2 λt23 =>
 uB .shr t23 t1 λt25 =>
 uB .and t25 (uc 1) λt26 =>
 uB .eql t26 (uc 1) λt27 =>
 M.ite t27
 (uS 6 t2 λt28 =>
 uT 6 t4 t28 λ_ =>
 uS 6 t4 λr0 =>
 M.pure (.ret [r0,(uc 7)]))
 (M.pure (.nrm []))))) λ_ =>
 uFM 3 t2 λt30 =>
 uB .shl (uc 1) t1 λt32 =>
 uB .or t30 t32 λt33 =>
 uF 3 t2 λt34 =>
 uT 1 t34 t33 λ_ =>
 uS 6 t2 λt35 =>
 uT 6 t4 t35 λ_ =>
 uS 6 t4 λr0 =>
 M.pure (.ret [r0,(uc 0)])
theorem zoL{t0 t1:V}:OkT zfh [t0,t1] (zk3 (sem T) t0 t1):=okT (by kernel_rfl) (by kernel_rfl) (by kernel_rfl)
def zk2(G:Sem')(t0:V):M Res :=
 uB .geq t0 (uc 0) λt4 =>
 uG t4 true (M.pure t0) λt6 =>
 uH t4 true (Ax.bin .lss t6 (uc 8)) λt7 =>
 uL (Ax.pick t4 t7 (V.bool false)) λt8 =>
 M.pure (.ret [t8])
theorem zoK{t0:V}:OkT zd8 [t0] (zk2 (sem T) t0):=okT (by kernel_rfl) (by kernel_rfl) (by kernel_rfl)
def zjR(G:Sem')(t0:V):M Res :=
 uNF 0 t0 λt5 =>
 uF 16 t5 λt6 =>
 uS 6 t6 λt7 =>
 (G zc7 [t7]).bind λt8 =>
 M.pure (.ret [t8])
theorem znj{t0:V}:OkT zdz [t0] (zjR (sem T) t0):=okT (by kernel_rfl) (by kernel_rfl) (by kernel_rfl)
def zgn(G:Sem')(t0:V):M Res :=
 uO zaj t0 λt1 =>
 uFM 1 t1 λt4 =>
 M.ite t4
 (uFM 2 t1 λt6 =>
 M.pure (.ret [t6]))
 (uFM 0 t1 λt8 =>
 M.pure (.ret [t8]))
theorem zhN{t0:V}:OkT zc7 [t0] (zgn (sem T) t0):=okT (by kernel_rfl) (by kernel_rfl) (by kernel_rfl)
def zev(G:Sem')(t15 t2 t0 t1 t7:V)(L:List V):M Res :=
 uB .lss (ug L 0) (uc 8) λt17 =>
 M.ite t17
 (M.blk 1 (
 uL (Ax.index 8 1 none t15 (ug L 0)) λt19 =>
 uG t19 true (M.pure (ug L 0)) λt22 =>
 uG t19 true (M.pure t2) λt23 =>
 uH t19 true (Ax.bin .neq t22 t23) λt24 =>
 uL (Ax.pick t19 t24 (V.bool false)) λt25 =>
 M.join (M.ite t25
 (uNF 0 t1 λt30 =>
 uF 0 t30 λt31 =>
 uF 8 t31 λt32 =>
 uIM (some 8) 1 t32 (ug L 0) λt34 =>
 uS 7 t7 λt35 =>
 (G zbw [t0,t34,t35]).bind λt36 =>
 M.pure (.nrm []))
 (M.pure (.nrm []))) λ_ =>
 M.pure (.nrm [])) λ_ =>
 uB .add (ug L 0) (uc 1) λt37 =>
 M.pure (.nrm [t37]))
 (M.pure (.ex 0 []))
def zia(G:Sem')(t0 t1 t2 t3:V):M Res :=
 uO zae t3 λt7 =>
 uNF 0 t1 λt12 =>
 uF 0 t12 λt13 =>
 uF 0 t13 λt14 =>
 uS 8 t14 λt15 =>
 M.blk 0 (
 M.iter (zev G t15 t2 t0 t1 t7) [(uc 0)]) λ_ =>
 M.pure (.ret [])
theorem zli{t0 t1 t2 t3:V}:OkT zcc [t0,t1,t2,t3] (zia (sem T) t0 t1 t2 t3):=okT (by kernel_rfl) (by kernel_rfl) (by kernel_rfl)
def zdE(G:Sem')(t0 t1 t2 t3:V):M Res :=
 uO zae t3 λt7 =>
 uNF 0 t1 λt15 =>
 uS 39 t15 λt16 =>
 uNF 0 t1 λt20 =>
 uF 0 t20 λt21 =>
 uF 8 t21 λt22 =>
 uI (some 8) 1 t22 t2 λt23 =>
 uM t23 λt24 =>
 uO zah (V.agg [(V.bool false),(V.bool false),(V.bool false),(V.bool false),(V.bool false),(V.bool false),(V.bool false),(V.bool false),(uc 0),(uc 0),(uc 0),(uc 0),(uc 0),(uc 0),(uc 0),(uc 0),(uc 0),(V.bool false),(uc 0),(uc 0),(uc 0),(uc 0),(uc 0),(uc 0),(uc 0),(uc 0),(uc 0),(uc 0),(uc 0),(uc 0),(uc 0),(uc 0),(uc 0),(uc 0),(uc 0),(uc 0),(uc 0),(uc 0),(V.bool false)]) λt9 =>
 M.getH.bind λh0 =>
 uT 39 t9 t16 λ_ =>
 M.getH.bind λh0' =>
 uU t23 h0 h0' λ_ =>
 uFM 0 t7 λt26 =>
 M.blk 0 (
 uB .eql t26 (uc 2) λt28 =>
 M.join (M.ite t28
 (uNF 0 t1 λt33 =>
 uS 39 t33 λt34 =>
 uNFM 1468 t0 λt39 =>
 (G zff [t34,t24,t39]).bind λt40 =>
 uE 0 t40 λt41 =>
 uNF 0 t1 λt44 =>
 uT 39 t44 t41 λ_ =>
 uE 1 t40 λt42 =>
 uS 39 t9 λt47 =>
 (G zcz [t0,t1,t47]).bind λt48 =>
 M.pure (.nrm [t42]))
 (uB .eql t26 (uc 3) λt50 =>
 M.join (M.ite t50
 (uNF 0 t1 λt55 =>
 uS 39 t55 λt56 =>
 uFM 2 t7 λt59 =>
 uNFM 1468 t0 λt63 =>
 (G zkQ [t56,t24,t59,t63]).bind λt64 =>
 uE 0 t64 λt65 =>
 uNF 0 t1 λt68 =>
 uT 39 t68 t65 λ_ =>
 uE 1 t64 λt66 =>
 uS 39 t9 λt71 =>
 (G zcz [t0,t1,t71]).bind λt72 =>
 M.pure (.nrm [t66]))
 (uB .eql t26 (uc 4) λt74 =>
 M.ite t74
 (uS 7 t7 λt77 =>
 (G zdl [t1,t2,t77]).bind λt78 =>
 M.pure (.ret [t78]))
 (uB .eql t26 (uc 5) λt80 =>
 M.ite t80
 (uS 7 t7 λt84 =>
 (G zgz [t0,t1,t2,t84]).bind λt85 =>
 M.pure (.ret [t85]))
 (uB .eql t26 (uc 6) λt87 =>
 M.join (M.ite t87
 (uFM 2 t7 λt91 =>
 uNF 303 t1 λt93 =>
 uI (some 8) 8 t93 t2 λt94 =>
 uIM (some 8) 1 t94 t91 λt96 =>
 uL (eqr .ptr false t96 V.nilp) λt97 =>
 M.ite t97
 (M.pure (.ret [(uc 6)]))
 (uFM 2 t7 λt101 =>
 uNF 303 t1 λt103 =>
 uI (some 8) 8 t103 t2 λt104 =>
 uI (some 8) 1 t104 t101 λt105 =>
 (mstore 1 t105 V.nilp).bind λ_ =>
 M.pure (.nrm [(uc 0)])))
 (uB .eql t26 (uc 7) λt107 =>
 M.ite t107
 (uS 7 t7 λt111 =>
 (G zho [t0,t1,t2,t111]).bind λt112 =>
 M.pure (.ret [t112]))
 (uB .eql t26 (uc 8) λt114 =>
 M.join (M.ite t114
 (uNF 0 t1 λt119 =>
 uS 39 t119 λt120 =>
 uFM 3 t7 λt123 =>
 (G zf1 [t120,t24,t123]).bind λt124 =>
 uE 0 t124 λt125 =>
 uNF 0 t1 λt129 =>
 uT 39 t129 t125 λ_ =>
 uE 1 t124 λt126 =>
 uE 2 t124 λt127 =>
 M.join (M.ite t126
 (uNF 0 t1 λt135 =>
 uF 16 t135 λt136 =>
 uFM 0 t136 λt138 =>
 uL (Ax.build [(uc 0),(uc 0),(uc 0),(uc 0),(uc 0),(uc 0),V.nils] [(0,1,(uc 22)),(3,1,t138)]) λt139 =>
 (G zcc [t0,t1,(uc (-1)),t139]).bind λt140 =>
 M.pure (.nrm []))
 (M.pure (.nrm []))) λ_ =>
 M.pure (.nrm [t127]))
 (M.pure (.nrm [(uc 0)]))) λL1 =>
 M.pure (.nrm [(ug L1 0)])))) λL2 =>
 M.pure (.nrm [(ug L2 0)]))))) λL3 =>
 M.pure (.nrm [(ug L3 0)]))) λL4 =>
 M.pure (.nrm [(ug L4 0)])) λL5 =>
 M.pure (.ret [(ug L5 0)])
theorem zep{t0 t1 t2 t3:V}:OkT zbU [t0,t1,t2,t3] (zdE (sem T) t0 t1 t2 t3):=okT (by kernel_rfl) (by kernel_rfl) (by kernel_rfl)
def zk0(G:Sem')(t0 t1 t2:V):M Res :=
 uO zah t0 λt3 =>
 uO zah (V.agg [(V.bool false),(V.bool false),(V.bool false),(V.bool false),(V.bool false),(V.bool false),(V.bool false),(V.bool false),(uc 0),(uc 0),(uc 0),(uc 0),(uc 0),(uc 0),(uc 0),(uc 0),(uc 0),(V.bool false),(uc 0),(uc 0),(uc 0),(uc 0),(uc 0),(uc 0),(uc 0),(uc 0),(uc 0),(uc 0),(uc 0),(uc 0),(uc 0),(uc 0),(uc 0),(uc 0),(uc 0),(uc 0),(uc 0),(uc 0),(V.bool false)]) λt6 =>
 uS 39 t3 λt11 =>
 (G zdS [t11,t1]).bind λt13 =>
 uE 0 t13 λt14 =>
 uE 1 t13 λt15 =>
 uB .neq t15 (uc 0) λt17 =>
 M.ite t17
 (uS 39 t3 λt18 =>
 uT 39 t6 t18 λ_ =>
 uS 39 t6 λr0 =>
 M.pure (.ret [r0,t15]))
 (uS 39 t3 λt20 =>
 (G zeB [t20,t14,t2]).bind λt23 =>
 uT 39 t6 t23 λ_ =>
 uS 39 t6 λr0 =>
 M.pure (.ret [r0,(uc 0)]))
theorem zoI{t0 t1 t2:V}:OkT zff [t0,t1,t2] (zk0 (sem T) t0 t1 t2):=okT (by kernel_rfl) (by kernel_rfl) (by kernel_rfl)
def zjN(G:Sem')(t0 t1 t2:V):M Res :=
 uO zah t0 λt3 =>
 uO zah (V.agg [(V.bool false),(V.bool false),(V.bool false),(V.bool false),(V.bool false),(V.bool false),(V.bool false),(V.bool false),(uc 0),(uc 0),(uc 0),(uc 0),(uc 0),(uc 0),(uc 0),(uc 0),(uc 0),(V.bool false),(uc 0),(uc 0),(uc 0),(uc 0),(uc 0),(uc 0),(uc 0),(uc 0),(uc 0),(uc 0),(uc 0),(uc 0),(uc 0),(uc 0),(uc 0),(uc 0),(uc 0),(uc 0),(uc 0),(uc 0),(V.bool false)]) λt6 =>
 uF 0 t3 λt10 =>
 uS 16 t10 λt11 =>
 (G zfe [t11,t1]).bind λt13 =>
 uE 0 t13 λt14 =>
 uE 1 t13 λt15 =>
 uF 0 t3 λt16 =>
 uT 16 t16 t14 λ_ =>
 uF 22 t3 λt19 =>
 uI (some 8) 1 t19 t1 λt20 =>
 (mstore 1 t20 (uc 0)).bind λ_ =>
 uF 30 t3 λt21 =>
 uI (some 8) 1 t21 t1 λt22 =>
 (mstore 1 t22 (uc 0)).bind λ_ =>
 uF 16 t3 λt24 =>
 uS 6 t24 λt25 =>
 uF 0 t3 λt26 =>
 uS 16 t26 λt27 =>
 M.getH.bind λh0 =>
 (G zcI [t27]).bind λt28 =>
 M.getH.bind λh0' =>
 uU t24 h0 h0' λ_ =>
 (G zeC [t25,t28,t2]).bind λt30 =>
 uE 0 t30 λt31 =>
 uO zaj (V.agg [(uc 0),(V.bool false),(uc 0),(uc 0),(uc 0),(uc 0)]) λt7 =>
 uT 6 t7 t31 λ_ =>
 uE 1 t30 λt32 =>
 uB .neq t32 (uc 0) λt34 =>
 M.ite t34
 (uF 16 t3 λt35 =>
 uFM 0 t35 λt37 =>
 uL (Ax.build [(uc 0),(V.bool false),(uc 0),(uc 0),(uc 0),(uc 0)] [(0,1,t37)]) λt38 =>
 uL (Ax.build [(V.bool false),(V.bool false),(V.bool false),(V.bool false),(V.bool false),(V.bool false),(V.bool false),(V.bool false),(uc 0),(uc 0),(uc 0),(uc 0),(uc 0),(uc 0),(uc 0),(uc 0),(uc 0),(V.bool false),(uc 0),(uc 0),(uc 0),(uc 0),(uc 0),(uc 0),(uc 0),(uc 0),(uc 0),(uc 0),(uc 0),(uc 0),(uc 0),(uc 0),(uc 0),(uc 0),(uc 0),(uc 0),(uc 0),(uc 0),(V.bool false)] [(16,6,t38),(38,1,(V.bool true))]) λt39 =>
 uT 39 t6 t39 λ_ =>
 uS 39 t6 λr0 =>
 M.pure (.ret [r0]))
 (uS 6 t7 λt40 =>
 uF 16 t3 λt41 =>
 uT 6 t41 t40 λ_ =>
 uS 39 t3 λt42 =>
 uT 39 t6 t42 λ_ =>
 uS 39 t6 λr0 =>
 M.pure (.ret [r0]))
theorem znf{t0 t1 t2:V}:OkT zeB [t0,t1,t2] (zjN (sem T) t0 t1 t2):=okT (by kernel_rfl) (by kernel_rfl) (by kernel_rfl)
def zkX(G:Sem')(t0 t1:V):M Res :=
 uO zal t0 λt2 =>
 uO zal (V.agg [(V.bool false),(V.bool false),(V.bool false),(V.bool false),(V.bool false),(V.bool false),(V.bool false),(V.bool false),(uc 0),(uc 0),(uc 0),(uc 0),(uc 0),(uc 0),(uc 0),(uc 0)]) λt4 =>
 M.blk 0 (
 uS 16 t2 λt7 =>
 (G zcf [t7]).bind λt8 =>
 uL (Ax.un .not t8) λt9 =>
 uG t9 false (M.pure t1) λt11 =>
 uG t9 false (G zfc [t11]) λt12 =>
 uH t9 false (Ax.un .not t12) λt13 =>
 uL (Ax.pick t9 (V.bool true) t13) λt14 =>
 M.ite t14
 (uS 16 t2 λt15 =>
 uT 16 t4 t15 λ_ =>
 uS 16 t4 λr0 =>
 M.pure (.ret [r0,(uc 1)]))
 (uF 0 t2 λt18 =>
 uIM (some 8) 1 t18 t1 λt20 =>
 uL (Ax.un .not t20) λt21 =>
 M.ite t21
 (uS 16 t2 λt22 =>
 uT 16 t4 t22 λ_ =>
 uS 16 t4 λr0 =>
 M.pure (.ret [r0,(uc 6)]))
 (M.pure (.nrm [])))) λ_ =>
 uF 0 t2 λt25 =>
 uI (some 8) 1 t25 t1 λt26 =>
 (mstore 1 t26 (V.bool false)).bind λ_ =>
 uF 8 t2 λt27 =>
 uI (some 8) 1 t27 t1 λt28 =>
 (mstore 1 t28 (uc 0)).bind λ_ =>
 uS 16 t2 λt29 =>
 uT 16 t4 t29 λ_ =>
 uS 16 t4 λr0 =>
 M.pure (.ret [r0,(uc 0)])
theorem zoG{t0 t1:V}:OkT zfe [t0,t1] (zkX (sem T) t0 t1):=okT (by kernel_rfl) (by kernel_rfl) (by kernel_rfl)
def zkR(G:Sem')(t0:V):M Res :=
 uB .geq t0 (uc 0) λt4 =>
 uG t4 true (M.pure t0) λt6 =>
 uH t4 true (Ax.bin .lss t6 (uc 8)) λt7 =>
 uL (Ax.pick t4 t7 (V.bool false)) λt8 =>
 M.pure (.ret [t8])
theorem zoA{t0:V}:OkT zfc [t0] (zkR (sem T) t0):=okT (by kernel_rfl) (by kernel_rfl) (by kernel_rfl)
def zjO(G:Sem')(t0 t1 t2:V):M Res :=
 uO zaj t0 λt3 =>
 uO zaj (V.agg [(uc 0),(V.bool false),(uc 0),(uc 0),(uc 0),(uc 0)]) λt6 =>
 uS 6 t3 λt9 =>
 (G zc7 [t9]).bind λt10 =>
 uB .add t10 (uc 1) λt11 =>
 M.blk 0 (
 uS 6 t3 λt13 =>
 (G zcK [t13]).bind λt14 =>
 uL (Ax.un .not t14) λt15 =>
 uG t15 false (M.pure t1) λt17 =>
 uH t15 false (Ax.bin .lss t17 (uc 0)) λt18 =>
 uL (Ax.pick t15 (V.bool true) t18) λt19 =>
 uG t19 false (M.pure t1) λt21 =>
 uH t19 false (Ax.bin .gtr t21 (uc 255)) λt22 =>
 uL (Ax.pick t19 (V.bool true) t22) λt23 =>
 M.ite t23
 (uS 6 t3 λt24 =>
 uT 6 t6 t24 λ_ =>
 uS 6 t6 λr0 =>
 M.pure (.ret [r0,(uc 1)]))
 (uB .gtr t11 (uc 65535) λt27 =>
 M.ite t27
 (uS 6 t3 λt28 =>
 uT 6 t6 t28 λ_ =>
 uS 6 t6 λr0 =>
 M.pure (.ret [r0,(uc 11)]))
 (uB .eql t1 (uc 0) λt31 =>
 M.ite t31
 (uL (Ax.build [(uc 0),(V.bool false),(uc 0),(uc 0),(uc 0),(uc 0)] [(0,1,t11)]) λt33 =>
 uT 6 t6 t33 λ_ =>
 uS 6 t6 λr0 =>
 M.pure (.ret [r0,(uc 0)]))
 (M.pure (.nrm []))))) λ_ =>
 uFM 0 t3 λt35 =>
 uL (Ax.build [(uc 0),(V.bool false),(uc 0),(uc 0),(uc 0),(uc 0)] [(0,1,t35),(1,1,(V.bool true)),(2,1,t11),(3,1,t1),(5,1,t2)]) λt39 =>
 uT 6 t6 t39 λ_ =>
 uS 6 t6 λr0 =>
 M.pure (.ret [r0,(uc 0)])
theorem zng{t0 t1 t2:V}:OkT zeC [t0,t1,t2] (zjO (sem T) t0 t1 t2):=okT (by kernel_rfl) (by kernel_rfl) (by kernel_rfl)
def zc0(G:Sem')(t17 t1:V)(L:List V):M Res :=
 uB .lss (ug L 1) (uc 8) λt19 =>
 M.ite t19
 (M.blk 1 (
 uL (Ax.index 8 1 none t17 (ug L 1)) λt21 =>
 uG t21 true (M.pure t1) λt24 =>
 uG t21 true (M.pure (ug L 1)) λt25 =>
 uH t21 true (Ax.nilck t24) λt26 =>
 uH t21 true (Ax.faddr 0 t26) λt27 =>
 uH t21 true (Ax.faddr 0 t27) λt28 =>
 uH t21 true (Ax.faddr 0 t28) λt29 =>
 uH t21 true (Ax.iaddr (some 8) 1 t29 t25) λt30 =>
 uG t21 true (mload none t30) λt31 =>
 uH t21 true (Ax.un .not t31) λt32 =>
 uL (Ax.pick t21 t32 (V.bool false)) λt33 =>
 M.join (M.ite t33
 ((mslit zfn 1 [(uc 0)] [(0,1,(ug L 1))]).bind λt36 =>
 (mappend zfn 1 8 (ug L 0) t36).bind λt37 =>
 M.pure (.nrm [t37]))
 (M.pure (.nrm [(ug L 0)]))) λL0 =>
 M.pure (.nrm [(ug L0 0)])) λL1 =>
 uB .add (ug L 1) (uc 1) λt38 =>
 M.pure (.nrm [(ug L1 0),t38]))
 (M.pure (.ex 0 [(ug L 0)]))
def zcZ(G:Sem')(t1 t10:V)(L:List V):M Res :=
 uB .lss (ug L 0) (uc 8) λt46 =>
 M.ite t46
 (M.blk 5 (
 uNF 303 t1 λt55 =>
 uI (some 8) 8 t55 t10 λt56 =>
 uI (some 8) 1 t56 (ug L 0) λt57 =>
 uNF 303 t1 λt59 =>
 uI (some 8) 8 t59 (ug L 0) λt60 =>
 (mstore 1 t57 V.nilp).bind λ_ =>
 uI (some 8) 1 t60 t10 λt61 =>
 (mstore 1 t61 V.nilp).bind λ_ =>
 M.pure (.nrm [])) λ_ =>
 uB .add (ug L 0) (uc 1) λt62 =>
 M.pure (.nrm [t62]))
 (M.pure (.ex 4 []))
def zcY(G:Sem')(t40 t39 t1 t5 t0:V)(L:List V):M Res :=
 let p:=V.int .u32 0
 uB .lss (ug L 0) t40 λt42 =>
 M.ite t42
 (M.blk 3 (
 uIM none 1 t39 (ug L 0) λt44 =>
 M.blk 4 (
 M.iter (zcZ G t1 t44) [(uc 0)]) λ_ =>
 uL (Ax.build [(V.bool false),p,(uc 0),(uc 0),(uc 0),V.nils,(uc 0),V.nils,V.nils,p,V.nils,(V.bool false),p,(uc 0),(uc 0),(uc 0),V.nils,(uc 0),V.nils,V.nils,p,V.nils,(V.bool false),p,(uc 0),(uc 0),(uc 0),V.nils,(uc 0),V.nils,V.nils,p,V.nils] []) λt65 =>
 uNF 39 t1 λt67 =>
 uI (some 8) 33 t67 t44 λt68 =>
 uT 33 t68 t65 λ_ =>
 uF 0 t5 λt70 =>
 uF 8 t70 λt71 =>
 uIM (some 8) 1 t71 t44 λt73 =>
 uNF 1470 t0 λt77 =>
 uIM (some 64) 1 t77 t73 λt79 =>
 (G zbp [t79]).bind λt80 =>
 uL (Ax.build [(uc 0),(uc 0),(uc 0),(uc 0),(uc 0),(uc 0),V.nils] [(0,1,(uc 23))]) λt83 =>
 (G zbw [t0,t73,t83]).bind λt84 =>
 M.pure (.nrm [])) λ_ =>
 uB .add (ug L 0) (uc 1) λt85 =>
 M.pure (.nrm [t85]))
 (M.pure (.ex 2 []))
def zcX(G:Sem')(t87 t86 t0 t1:V)(L:List V):M Res :=
 uB .lss (ug L 0) t87 λt89 =>
 M.ite t89
 (M.blk 7 (
 uIM none 1 t86 (ug L 0) λt91 =>
 uNF 0 t1 λt100 =>
 uF 0 t100 λt101 =>
 uS 16 t101 λt102 =>
 M.getH.bind λh0 =>
 (G zdz [t1]).bind λt97 =>
 M.getH.bind λh0' =>
 uU t101 h0 h0' λ_ =>
 (G zcI [t102]).bind λt103 =>
 uL (Ax.build [(uc 0),(uc 0),(uc 0),(uc 0),(uc 0),(uc 0),V.nils] [(0,1,(uc 20)),(2,1,t91),(3,1,t97),(4,1,t103)]) λt104 =>
 (G zcc [t0,t1,t91,t104]).bind λt105 =>
 M.pure (.nrm [])) λ_ =>
 uB .add (ug L 0) (uc 1) λt106 =>
 M.pure (.nrm [t106]))
 (M.pure (.ex 6 []))
def zhs(G:Sem')(t0 t1 t2:V):M Res :=
 uO zah t2 λt5 =>
 uF 0 t5 λt15 =>
 uF 0 t15 λt16 =>
 uS 8 t16 λt17 =>
 M.blk 0 (
 M.iter (zc0 G t17 t1) [V.nils,(uc 0)]) λL2 =>
 uL (vlen (ug L2 0)) λt40 =>
 M.blk 2 (
 M.iter (zcY G t40 (ug L2 0) t1 t5 t0) [(uc 0)]) λ_ =>
 uL (vlen (ug L2 0)) λt87 =>
 M.blk 6 (
 M.iter (zcX G t87 (ug L2 0) t0 t1) [(uc 0)]) λ_ =>
 M.pure (.ret [])
theorem zkg{t0 t1 t2:V}:OkT zcz [t0,t1,t2] (zhs (sem T) t0 t1 t2):=okT (by kernel_rfl) (by kernel_rfl) (by kernel_rfl)
def zdq(G:Sem')(t0:V):M Res :=
 uNF 1 t0 λt4 =>
 (mstore 1 t4 V.nils).bind λ_ =>
 M.pure (.ret [])
theorem zft{t0:V}:OkT zbp [t0] (zdq (sem T) t0):=okT (by kernel_rfl) (by kernel_rfl) (by kernel_rfl)
def zhr(G:Sem')(t0 t1 t2:V):M Res :=
 uO zae t2 λt5 =>
 uFM 6 t5 λt12 =>
 uIM none 1 t12 (uc 0) λt14 =>
 uL (Ax.cint .u32 t14) λt15 =>
 uB .shl t15 (uq 24) λt16 =>
 uFM 6 t5 λt18 =>
 uIM none 1 t18 (uc 1) λt20 =>
 uL (Ax.cint .u32 t20) λt21 =>
 uB .shl t21 (uq 16) λt22 =>
 uB .or t16 t22 λt23 =>
 uFM 6 t5 λt25 =>
 uIM none 1 t25 (uc 2) λt27 =>
 uL (Ax.cint .u32 t27) λt28 =>
 uB .shl t28 (uq 8) λt29 =>
 uB .or t23 t29 λt30 =>
 uFM 6 t5 λt32 =>
 uIM none 1 t32 (uc 3) λt34 =>
 uL (Ax.cint .u32 t34) λt35 =>
 uB .or t30 t35 λt36 =>
 (G zby [t0,t1,t36]).bind λt41 =>
 uE 0 t41 λt42 =>
 uE 1 t41 λt43 =>
 uG t43 true (M.pure t42) λt46 =>
 uH t43 true (Ax.faddr 4 t5) λt47 =>
 uG t43 true (mload none t47) λt48 =>
 uH t43 true (Ax.bin .neq t46 t48) λt49 =>
 uL (Ax.pick t43 t49 (V.bool false)) λt50 =>
 M.ite t50
 (M.pure (.ret [(uc 7)]))
 (uFM 4 t5 λt54 =>
 uNF 39 t0 λt56 =>
 uI (some 8) 33 t56 t1 λt57 =>
 uI (some 3) 11 t57 t54 λt58 =>
 uNFM 0 t58 λt62 =>
 uL (Ax.un .not t62) λt63 =>
 uG t63 false (M.pure t58) λt65 =>
 uH t63 false (Ax.nilck t65) λt66 =>
 uH t63 false (Ax.faddr 1 t66) λt67 =>
 uG t63 false (mload none t67) λt68 =>
 uG t63 false (M.pure t36) λt69 =>
 uH t63 false (Ax.bin .neq t68 t69) λt70 =>
 uL (Ax.pick t63 (V.bool true) t70) λt71 =>
 M.join (M.ite t71
 (uL (Ax.build [(V.bool false),(V.int .u32 0),(uc 0),(uc 0),(uc 0),V.nils,(uc 0),V.nils,V.nils,(V.int .u32 0),V.nils] [(0,1,(V.bool true)),(1,1,t36)]) λt74 =>
 uN t58 λt75 =>
 uT 11 t75 t74 λ_ =>
 M.pure (.nrm []))
 (M.pure (.nrm []))) λ_ =>
 uFM 5 t5 λt78 =>
 uNF 2 t58 λt80 =>
 uT 1 t80 t78 λ_ =>
 M.pure (.ret [(uc 0)]))
theorem zkf{t0 t1 t2:V}:OkT zdl [t0,t1,t2] (zhr (sem T) t0 t1 t2):=okT (by kernel_rfl) (by kernel_rfl) (by kernel_rfl)
end Go.Ax
/- FnS8 -/
namespace Go.Ax
open Go.Proofs
def zmK(G:Sem')(t0 t1 t2:V):M Res :=
 uO zah t0 λt3 =>
 uO zah (V.agg [(V.bool false),(V.bool false),(V.bool false),(V.bool false),(V.bool false),(V.bool false),(V.bool false),(V.bool false),(uc 0),(uc 0),(uc 0),(uc 0),(uc 0),(uc 0),(uc 0),(uc 0),(uc 0),(V.bool false),(uc 0),(uc 0),(uc 0),(uc 0),(uc 0),(uc 0),(uc 0),(uc 0),(uc 0),(uc 0),(uc 0),(uc 0),(uc 0),(uc 0),(uc 0),(uc 0),(uc 0),(uc 0),(uc 0),(uc 0),(V.bool false)]) λt6 =>
 uS 39 t3 λt14 =>
 (G zdS [t14,t1]).bind λt16 =>
 uE 0 t16 λt17 =>
 uE 1 t16 λt18 =>
 uB .neq t18 (uc 0) λt20 =>
 M.ite t20
 (uS 39 t3 λt21 =>
 uT 39 t6 t21 λ_ =>
 uS 39 t6 λr0 =>
 M.pure (.ret [r0,(V.bool false),t18]))
 (uF 16 t3 λt24 =>
 uS 6 t24 λt25 =>
 (G zf2 [t25,t17,t2]).bind λt28 =>
 uE 0 t28 λt29 =>
 uE 1 t28 λt30 =>
 uE 2 t28 λt31 =>
 uO zaj (V.agg [(uc 0),(V.bool false),(uc 0),(uc 0),(uc 0),(uc 0)]) λt11 =>
 uT 6 t11 t29 λ_ =>
 uB .neq t31 (uc 0) λt33 =>
 M.ite t33
 (uS 39 t3 λt34 =>
 uT 39 t6 t34 λ_ =>
 uS 39 t6 λr0 =>
 M.pure (.ret [r0,(V.bool false),t31]))
 (uS 6 t11 λt36 =>
 uF 16 t3 λt37 =>
 uT 6 t37 t36 λ_ =>
 uS 39 t3 λt38 =>
 uT 39 t6 t38 λ_ =>
 uS 39 t6 λr0 =>
 M.pure (.ret [r0,t30,(uc 0)])))
theorem zp0{t0 t1 t2:V}:OkT zf1 [t0,t1,t2] (zmK (sem T) t0 t1 t2):=okT (by kernel_rfl) (by kernel_rfl) (by kernel_rfl)
def zmM(G:Sem')(t0 t1 t2:V):M Res :=
 uO zaj t0 λt3 =>
 uO zaj (V.agg [(uc 0),(V.bool false),(uc 0),(uc 0),(uc 0),(uc 0)]) λt6 =>
 M.blk 0 (
 uS 6 t3 λt10 =>
 (G zcK [t10]).bind λt11 =>
 uL (Ax.un .not t11) λt12 =>
 uG t12 false (M.pure t1) λt14 =>
 uG t12 false (G zd8 [t14]) λt15 =>
 uH t12 false (Ax.un .not t15) λt16 =>
 uL (Ax.pick t12 (V.bool true) t16) λt17 =>
 M.ite t17
 (uS 6 t3 λt18 =>
 uT 6 t6 t18 λ_ =>
 uS 6 t6 λr0 =>
 M.pure (.ret [r0,(V.bool false),(uc 1)]))
 (uFM 1 t3 λt21 =>
 uL (Ax.un .not t21) λt22 =>
 uH t22 false (Ax.faddr 2 t3) λt24 =>
 uG t22 false (mload none t24) λt25 =>
 uG t22 false (M.pure t2) λt26 =>
 uH t22 false (Ax.bin .neq t25 t26) λt27 =>
 uL (Ax.pick t22 (V.bool true) t27) λt28 =>
 M.ite t28
 (uS 6 t3 λt29 =>
 uT 6 t6 t29 λ_ =>
 uS 6 t6 λr0 =>
 M.pure (.ret [r0,(V.bool false),(uc 12)]))
 (uFM 3 t3 λt32 =>
 uB .shr t32 t1 λt34 =>
 uB .and t34 (uc 1) λt35 =>
 uB .eql t35 (uc 0) λt36 =>
 M.ite t36
 (uS 6 t3 λt37 =>
 uT 6 t6 t37 λ_ =>
 uS 6 t6 λr0 =>
 M.pure (.ret [r0,(V.bool false),(uc 6)]))
 (uFM 4 t3 λt40 =>
 uB .shr t40 t1 λt42 =>
 uB .and t42 (uc 1) λt43 =>
 uB .eql t43 (uc 1) λt44 =>
 M.ite t44
 (uS 6 t3 λt45 =>
 uT 6 t6 t45 λ_ =>
 uS 6 t6 λr0 =>
 M.pure (.ret [r0,(V.bool false),(uc 7)]))
 (M.pure (.nrm [])))))) λ_ =>
 uFM 4 t3 λt47 =>
 uB .shl (uc 1) t1 λt49 =>
 uB .or t47 t49 λt50 =>
 uF 4 t3 λt51 =>
 uT 1 t51 t50 λ_ =>
 uFM 4 t3 λt53 =>
 uFM 3 t3 λt55 =>
 uB .eql t53 t55 λt56 =>
 M.ite t56
 (uFM 2 t3 λt58 =>
 uL (Ax.build [(uc 0),(V.bool false),(uc 0),(uc 0),(uc 0),(uc 0)] [(0,1,t58)]) λt59 =>
 uT 6 t6 t59 λ_ =>
 uS 6 t6 λr0 =>
 M.pure (.ret [r0,(V.bool true),(uc 0)]))
 (uS 6 t3 λt60 =>
 uT 6 t6 t60 λ_ =>
 uS 6 t6 λr0 =>
 M.pure (.ret [r0,(V.bool false),(uc 0)]))
theorem zp2{t0 t1 t2:V}:OkT zf2 [t0,t1,t2] (zmM (sem T) t0 t1 t2):=okT (by kernel_rfl) (by kernel_rfl) (by kernel_rfl)
def zdK(G:Sem')(t10 t0 t1 t6:V)(L:List V):M Res :=
 uB .lss (ug L 1) t10 λt12 =>
 M.ite t12
 (M.blk 1 (
 uNF 1470 t0 λt17 =>
 uIM (some 64) 1 t17 t1 λt19 =>
 (G zbx [t19]).bind λt20 =>
 uE 0 t20 λt21 =>
 uE 1 t20 λt22 =>
 uO zcl (V.agg [(uc 0),(uc 0),V.nils]) λt8 =>
 uT 3 t8 t21 λ_ =>
 uL (Ax.un .not t22) λt24 =>
 M.ite t24
 (M.pure (.ex 0 [(ug L 0)]))
 (uS 3 t8 λt26 =>
 (mslit zcl 1 [(uc 0),(uc 0),V.nils] [(0,3,t26)]).bind λt27 =>
 (mappend zcl 3 40 (ug L 0) t27).bind λt28 =>
 M.pure (.nrm [t28]))) λL0 =>
 uB .add (ug L 1) (uc 1) λt29 =>
 M.pure (.nrm [(ug L0 0),t29]))
 (M.pure (.ex 0 [(ug L 0)]))
def zgF(G:Sem')(t0 t1 t2:V):M Res :=
 M.blk 0 (
 M.iter (zdK G t2 t0 t1 V.nils) [V.nils,(uc 0)]) λL1 =>
 M.pure (.ret [(ug L1 0)])
theorem zjj{t0 t1 t2:V}:OkT zci [t0,t1,t2] (zgF (sem T) t0 t1 t2):=okT (by kernel_rfl) (by kernel_rfl) (by kernel_rfl)
def zdA(G:Sem')(t0:V):M Res :=
 uO zcl (V.agg [(uc 0),(uc 0),V.nils]) λt2 =>
 uO zcl (V.agg [(uc 0),(uc 0),V.nils]) λt4 =>
 uNFM 1 t0 λt9 =>
 uL (vlen t9) λt10 =>
 uB .eql t10 (uc 0) λt11 =>
 M.ite t11
 (uS 3 t4 λt12 =>
 uT 3 t2 t12 λ_ =>
 uS 3 t2 λr0 =>
 M.pure (.ret [r0,(V.bool false)]))
 (uNFM 1 t0 λt16 =>
 uI none 3 t16 (uc 0) λt17 =>
 uS 3 t17 λt18 =>
 uO zcl (V.agg [(uc 0),(uc 0),V.nils]) λt5 =>
 uT 3 t5 t18 λ_ =>
 uNFM 1 t0 λt23 =>
 uL (zaU .sl 3 t23 (some (uc 1)) none none) λt24 =>
 uNF 1 t0 λt26 =>
 uT 1 t26 t24 λ_ =>
 uS 3 t5 λt27 =>
 uT 3 t2 t27 λ_ =>
 uS 3 t2 λr0 =>
 M.pure (.ret [r0,(V.bool true)]))
theorem zfO{t0:V}:OkT zbx [t0] (zdA (sem T) t0):=okT (by kernel_rfl) (by kernel_rfl) (by kernel_rfl)
def zgJ(G:Sem')(t0 t1:V):M Res :=
 uNFM 1534 t0 λt8 =>
 (G zdk [t8,t1]).bind λt10 =>
 M.pure (.ret [t10])
theorem zjn{t0 t1:V}:OkT za2 [t0,t1] (zgJ (sem T) t0 t1):=okT (by kernel_rfl) (by kernel_rfl) (by kernel_rfl)
def zhq(G:Sem')(t0 t1:V):M Res :=
 uB .lss t1 (uc 0) λt6 =>
 uG t6 false (M.pure t1) λt8 =>
 uG t6 false (M.pure t0) λt9 =>
 uH t6 false (Ax.nilck t9) λt10 =>
 uH t6 false (Ax.faddr 0 t10) λt11 =>
 uG t6 false (mload none t11) λt12 =>
 uH t6 false (vlen t12) λt13 =>
 uH t6 false (Ax.bin .geq t8 t13) λt14 =>
 uL (Ax.pick t6 (V.bool true) t14) λt15 =>
 M.ite t15
 (M.pure (.ret [(uc 0)]))
 (uNFM 0 t0 λt19 =>
 uI none 1 t19 t1 λt21 =>
 (G zcm [t21]).bind λt22 =>
 M.pure (.ret [t22]))
theorem zkd{t0 t1:V}:OkT zdk [t0,t1] (zhq (sem T) t0 t1):=okT (by kernel_rfl) (by kernel_rfl) (by kernel_rfl)
def zdT(G:Sem')(t0:V):M Res :=
 uNF 0 t0 λt5 =>
 (matoload .i64 t5).bind λt6 =>
 M.pure (.ret [t6])
theorem zgd{t0:V}:OkT zcm [t0] (zdT (sem T) t0):=okT (by kernel_rfl) (by kernel_rfl) (by kernel_rfl)
def zeR(G:Sem')(t0:V):M Res :=
 uO zab t0 λt1 =>
 uS 7 t1 λt6 =>
 (G zbO [t6]).bind λt7 =>
 uE 0 t7 λt8 =>
 uE 1 t7 λt9 =>
 M.pure (.ret [t8])
theorem zhz{t0:V}:OkT zay [t0] (zeR (sem T) t0):=okT (by kernel_rfl) (by kernel_rfl) (by kernel_rfl)
def zek(G:Sem')(t0:V):M Res :=
 uO zab t0 λt1 =>
 uS 7 t1 λt5 =>
 (G zas [t5]).bind λt6 =>
 uL (Ax.un .not t6) λt7 =>
 M.ite t7
 (M.pure (.ret [V.nils,(uc 1)]))
 (uFM 0 t1 λt9 =>
 uL (Ax.cint .u8 t9) λt10 =>
 uFM 1 t1 λt12 =>
 uL (Ax.cint .u8 t12) λt13 =>
 uFM 2 t1 λt15 =>
 uL (Ax.cint .u8 t15) λt16 =>
 (mslit zak 3 [(ub 0)] [(0,1,t10),(1,1,t13),(2,1,t16)]).bind λt17 =>
 uFM 3 t1 λt20 =>
 uL (Ax.cint .u64 t20) λt21 =>
 (G zaD [t17,t21,(uc 2)]).bind λt22 =>
 uFM 4 t1 λt25 =>
 uL (Ax.cint .u64 t25) λt26 =>
 (G zaD [t22,t26,(uc 2)]).bind λt27 =>
 uFM 5 t1 λt30 =>
 uL (Ax.cint .u64 t30) λt31 =>
 (G zaD [t27,t31,(uc 2)]).bind λt32 =>
 uFM 6 t1 λt35 =>
 uL (vlen t35) λt36 =>
 uL (Ax.cint .u64 t36) λt37 =>
 uF 6 t1 λt39 =>
 uM t39 λt40 =>
 M.getH.bind λh0 =>
 (G zaD [t32,t37,(uc 2)]).bind λt38 =>
 M.getH.bind λh0' =>
 uU t39 h0 h0' λ_ =>
 (mappend zak 1 1 t38 t40).bind λt41 =>
 M.pure (.ret [t41,(uc 0)]))
theorem zgV{t0:V}:OkT zbO [t0] (zek (sem T) t0):=okT (by kernel_rfl) (by kernel_rfl) (by kernel_rfl)
def za6(G:Sem')(t0:V):M Res :=
 uO zab t0 λt1 =>
 uFM 0 t1 λt6 =>
 (G zaI [t6]).bind λt7 =>
 uB .eql t7 (V.str ⟨#[]⟩) λt9 =>
 uH t9 false (Ax.faddr 1 t1) λt11 =>
 uG t9 false (mload none t11) λt12 =>
 uG t9 false (G zaL [t12,(uc 0),(uc 3)]) λt13 =>
 uH t9 false (Ax.un .not t13) λt14 =>
 uL (Ax.pick t9 (V.bool true) t14) λt15 =>
 uH t15 false (Ax.faddr 2 t1) λt17 =>
 uG t15 false (mload none t17) λt18 =>
 uG t15 false (G zaL [t18,(uc 0),(uc 7)]) λt19 =>
 uH t15 false (Ax.un .not t19) λt20 =>
 uL (Ax.pick t15 (V.bool true) t20) λt21 =>
 uH t21 false (Ax.faddr 3 t1) λt23 =>
 uG t21 false (mload none t23) λt24 =>
 uG t21 false (G zaL [t24,(uc 0),(uc 65535)]) λt25 =>
 uH t21 false (Ax.un .not t25) λt26 =>
 uL (Ax.pick t21 (V.bool true) t26) λt27 =>
 uH t27 false (Ax.faddr 4 t1) λt29 =>
 uG t27 false (mload none t29) λt30 =>
 uG t27 false (G zaL [t30,(uc 0),(uc 65535)]) λt31 =>
 uH t27 false (Ax.un .not t31) λt32 =>
 uL (Ax.pick t27 (V.bool true) t32) λt33 =>
 uH t33 false (Ax.faddr 5 t1) λt35 =>
 uG t33 false (mload none t35) λt36 =>
 uG t33 false (G zaL [t36,(uc 0),(uc 65535)]) λt37 =>
 uH t33 false (Ax.un .not t37) λt38 =>
 uL (Ax.pick t33 (V.bool true) t38) λt39 =>
 uH t39 false (Ax.faddr 6 t1) λt41 =>
 uG t39 false (mload none t41) λt42 =>
 uH t39 false (vlen t42) λt43 =>
 uH t39 false (Ax.bin .gtr t43 (uc 200)) λt44 =>
 uL (Ax.pick t39 (V.bool true) t44) λt45 =>
 M.ite t45
 (M.pure (.ret [(V.bool false)]))
 ((G zaq [t7,(ub 114)]).bind λt47 =>
 uL (Ax.un .not t47) λt48 =>
 uH t48 true (Ax.faddr 1 t1) λt50 =>
 uG t48 true (mload none t50) λt51 =>
 uH t48 true (Ax.bin .neq t51 (uc 0)) λt52 =>
 uL (Ax.pick t48 t52 (V.bool false)) λt53 =>
 uG t53 false (M.pure t7) λt55 =>
 uG t53 false (G zaq [t55,(ub 115)]) λt56 =>
 uH t53 false (Ax.un .not t56) λt57 =>
 uG t53 false (M.pure t57) λt58 =>
 uH t58 true (Ax.faddr 2 t1) λt59 =>
 uG t58 true (mload none t59) λt60 =>
 uH t58 true (Ax.bin .neq t60 (uc 0)) λt61 =>
 uH t53 false (Ax.pick t58 t61 (V.bool false)) λt62 =>
 uL (Ax.pick t53 (V.bool true) t62) λt63 =>
 uG t63 false (M.pure t7) λt65 =>
 uG t63 false (G zaq [t65,(ub 101)]) λt66 =>
 uH t63 false (Ax.un .not t66) λt67 =>
 uG t63 false (M.pure t67) λt68 =>
 uH t68 true (Ax.faddr 3 t1) λt69 =>
 uG t68 true (mload none t69) λt70 =>
 uH t68 true (Ax.bin .neq t70 (uc 0)) λt71 =>
 uH t63 false (Ax.pick t68 t71 (V.bool false)) λt72 =>
 uL (Ax.pick t63 (V.bool true) t72) λt73 =>
 uG t73 false (M.pure t7) λt75 =>
 uG t73 false (G zaq [t75,(ub 110)]) λt76 =>
 uH t73 false (Ax.un .not t76) λt77 =>
 uG t73 false (M.pure t77) λt78 =>
 uH t78 true (Ax.faddr 4 t1) λt79 =>
 uG t78 true (mload none t79) λt80 =>
 uH t78 true (Ax.bin .neq t80 (uc 0)) λt81 =>
 uH t73 false (Ax.pick t78 t81 (V.bool false)) λt82 =>
 uL (Ax.pick t73 (V.bool true) t82) λt83 =>
 uG t83 false (M.pure t7) λt85 =>
 uG t83 false (G zaq [t85,(ub 109)]) λt86 =>
 uH t83 false (Ax.un .not t86) λt87 =>
 uG t83 false (M.pure t87) λt88 =>
 uH t88 true (Ax.faddr 5 t1) λt89 =>
 uG t88 true (mload none t89) λt90 =>
 uH t88 true (Ax.bin .neq t90 (uc 0)) λt91 =>
 uH t83 false (Ax.pick t88 t91 (V.bool false)) λt92 =>
 uL (Ax.pick t83 (V.bool true) t92) λt93 =>
 uG t93 false (M.pure t7) λt95 =>
 uG t93 false (G zaq [t95,(ub 98)]) λt96 =>
 uH t93 false (Ax.un .not t96) λt97 =>
 uG t93 false (M.pure t97) λt98 =>
 uH t98 true (Ax.faddr 6 t1) λt99 =>
 uG t98 true (mload none t99) λt100 =>
 uH t98 true (vlen t100) λt101 =>
 uH t98 true (Ax.bin .gtr t101 (uc 0)) λt102 =>
 uH t93 false (Ax.pick t98 t102 (V.bool false)) λt103 =>
 uL (Ax.pick t93 (V.bool true) t103) λt104 =>
 M.ite t104
 (M.pure (.ret [(V.bool false)]))
 (uFM 4 t1 λt106 =>
 uB .lss t106 (uc 256) λt107 =>
 M.join (M.ite t107
 (uFM 4 t1 λt109 =>
 uFM 2 t1 λt111 =>
 uL (Ax.cint .u64 t111) λt112 =>
 uB .shr t109 t112 λt113 =>
 uB .and t113 (uc 1) λt114 =>
 uB .eql t114 (uc 1) λt115 =>
 M.pure (.nrm [t115]))
 (M.pure (.nrm [(V.bool false)]))) λL0 =>
 uFM 0 t1 λt117 =>
 M.blk 0 (
 uB .eql t117 (uc 4) λt119 =>
 M.ite t119
 (uFM 4 t1 λt121 =>
 uB .lss t121 (uc 3) λt122 =>
 uH t122 true (Ax.faddr 6 t1) λt124 =>
 uG t122 true (mload none t124) λt125 =>
 uH t122 true (vlen t125) λt126 =>
 uH t122 true (Ax.bin .eql t126 (uc 4)) λt127 =>
 uL (Ax.pick t122 t127 (V.bool false)) λt128 =>
 M.pure (.ret [t128]))
 (uB .eql t117 (uc 5) λt130 =>
 M.ite t130
 (uFM 4 t1 λt132 =>
 uB .lss t132 (uc 4) λt133 =>
 uH t133 true (Ax.faddr 5 t1) λt135 =>
 uG t133 true (mload none t135) λt136 =>
 uH t133 true (Ax.bin .lss t136 (uc 8)) λt137 =>
 uL (Ax.pick t133 t137 (V.bool false)) λt138 =>
 M.pure (.ret [t138]))
 (uB .eql t117 (uc 7) λt140 =>
 M.join (M.ite t140
 (M.pure (.nrm [t140]))
 (uB .eql t117 (uc 21) λt141 =>
 M.pure (.nrm [t141]))) λL1 =>
 M.ite (ug L1 0)
 (uFM 4 t1 λt143 =>
 uB .lss t143 (uc 32) λt144 =>
 uH t144 true (Ax.faddr 6 t1) λt146 =>
 uG t144 true (mload none t146) λt147 =>
 uH t144 true (vlen t147) λt148 =>
 uH t144 true (Ax.bin .gtr t148 (uc 0)) λt149 =>
 uL (Ax.pick t144 t149 (V.bool false)) λt150 =>
 M.pure (.ret [t150]))
 (uB .eql t117 (uc 17) λt152 =>
 M.ite t152
 (uFM 4 t1 λt154 =>
 uB .lss t154 (uc 256) λt155 =>
 uG t155 true (M.pure (ug L0 0)) λt157 =>
 uL (Ax.pick t155 t157 (V.bool false)) λt158 =>
 uH t158 true (Ax.faddr 5 t1) λt160 =>
 uG t158 true (mload none t160) λt161 =>
 uH t158 true (Ax.faddr 3 t1) λt162 =>
 uG t158 true (mload none t162) λt163 =>
 uH t158 true (Ax.bin .geq t161 t163) λt164 =>
 uL (Ax.pick t158 t164 (V.bool false)) λt165 =>
 uG t165 true (mload (some 7) t1) λt167 =>
 uG t165 true (G zbN [t167]) λt168 =>
 uL (Ax.pick t165 t168 (V.bool false)) λt169 =>
 M.pure (.ret [t169]))
 (uB .eql t117 (uc 18) λt171 =>
 M.ite t171
 (uFM 4 t1 λt173 =>
 (G zaL [t173,(uc 1),(uc 13)]).bind λt174 =>
 uH t174 true (Ax.faddr 5 t1) λt176 =>
 uG t174 true (mload none t176) λt177 =>
 uH t174 true (Ax.bin .leq t177 (uc 9)) λt178 =>
 uL (Ax.pick t174 t178 (V.bool false)) λt179 =>
 M.pure (.ret [t179]))
 (uB .eql t117 (uc 19) λt181 =>
 M.ite t181
 (uFM 4 t1 λt183 =>
 uB .lss t183 (uc 256) λt184 =>
 uG t184 true (M.pure (ug L0 0)) λt186 =>
 uL (Ax.pick t184 t186 (V.bool false)) λt187 =>
 uH t187 true (Ax.faddr 5 t1) λt189 =>
 uG t187 true (mload none t189) λt190 =>
 uH t187 true (Ax.bin .leq t190 (uc 63)) λt191 =>
 uL (Ax.pick t187 t191 (V.bool false)) λt192 =>
 M.pure (.ret [t192]))
 (uB .eql t117 (uc 20) λt194 =>
 M.ite t194
 (uFM 4 t1 λt196 =>
 uB .lss t196 (uc 256) λt197 =>
 uG t197 true (M.pure (ug L0 0)) λt199 =>
 uH t197 true (Ax.un .not t199) λt200 =>
 uL (Ax.pick t197 t200 (V.bool false)) λt201 =>
 M.pure (.ret [t201]))
 (uB .eql t117 (uc 24) λt203 =>
 M.ite t203
 (uFM 6 t1 λt205 =>
 uL (vlen t205) λt206 =>
 uB .eql t206 (uc 4) λt207 =>
 M.pure (.ret [t207]))
 (M.pure (.nrm [])))))))))) λ_ =>
 M.pure (.ret [(V.bool true)])))
theorem za8{t0:V}:OkT zas [t0] (za6 (sem T) t0):=okT (by kernel_rfl) (by kernel_rfl) (by kernel_rfl)
def za1(G:Sem')(t0:V):M Res :=
 M.blk 0 (
 uB .eql t0 (uc 1) λt5 =>
 M.ite t5
 (M.pure (.ret [(V.str ⟨#[114]⟩)]))
 (uB .eql t0 (uc 2) λt7 =>
 M.join (M.ite t7
 (M.pure (.nrm [t7]))
 (uB .eql t0 (uc 9) λt8 =>
 M.join (M.ite t8
 (M.pure (.nrm [t8]))
 (uB .eql t0 (uc 23) λt9 =>
 M.pure (.nrm [t9]))) λL0 =>
 M.pure (.nrm [(ug L0 0)]))) λL1 =>
 M.ite (ug L1 0)
 (M.pure (.ret [(V.str ⟨#[45]⟩)]))
 (uB .eql t0 (uc 3) λt11 =>
 M.join (M.ite t11
 (M.pure (.nrm [t11]))
 (uB .eql t0 (uc 6) λt12 =>
 M.pure (.nrm [t12]))) λL2 =>
 M.ite (ug L2 0)
 (M.pure (.ret [(V.str ⟨#[115]⟩)]))
 (uB .eql t0 (uc 4) λt14 =>
 M.ite t14
 (M.pure (.ret [(V.str ⟨#[110,109,98]⟩)]))
 (uB .eql t0 (uc 5) λt16 =>
 M.ite t16
 (M.pure (.ret [(V.str ⟨#[115,110,109]⟩)]))
 (uB .eql t0 (uc 7) λt18 =>
 M.join (M.ite t18
 (M.pure (.nrm [t18]))
 (uB .eql t0 (uc 21) λt19 =>
 M.pure (.nrm [t19]))) λL3 =>
 M.ite (ug L3 0)
 (M.pure (.ret [(V.str ⟨#[115,101,110,98]⟩)]))
 (uB .eql t0 (uc 8) λt21 =>
 M.join (M.ite t21
 (M.pure (.nrm [t21]))
 (uB .eql t0 (uc 22) λt22 =>
 M.pure (.nrm [t22]))) λL4 =>
 M.ite (ug L4 0)
 (M.pure (.ret [(V.str ⟨#[101]⟩)]))
 (uB .eql t0 (uc 17) λt24 =>
 M.ite t24
 (M.pure (.ret [(V.str ⟨#[114,115,101,110,109,98]⟩)]))
 (uB .eql t0 (uc 18) λt26 =>
 M.ite t26
 (M.pure (.ret [(V.str ⟨#[110,109]⟩)]))
 (uB .eql t0 (uc 19) λt28 =>
 M.ite t28
 (M.pure (.ret [(V.str ⟨#[115,101,110,109]⟩)]))
 (uB .eql t0 (uc 20) λt30 =>
 M.ite t30
 (M.pure (.ret [(V.str ⟨#[115,101,110]⟩)]))
 (uB .eql t0 (uc 24) λt32 =>
 M.ite t32
 (M.pure (.ret [(V.str ⟨#[115,98]⟩)]))
 (M.pure (.nrm [])))))))))))))) λ_ =>
 M.pure (.ret [(V.str ⟨#[]⟩)])
theorem za4{t0:V}:OkT zaI [t0] (za1 (sem T) t0):=okT (by kernel_rfl) (by kernel_rfl) (by kernel_rfl)
def zfH(G:Sem')(t0 t1 t2:V):M Res :=
 uB .geq t0 t1 λt9 =>
 uG t9 true (M.pure t0) λt11 =>
 uG t9 true (M.pure t2) λt12 =>
 uH t9 true (Ax.bin .leq t11 t12) λt13 =>
 uL (Ax.pick t9 t13 (V.bool false)) λt14 =>
 M.pure (.ret [t14])
theorem ziv{t0 t1 t2:V}:OkT zaL [t0,t1,t2] (zfH (sem T) t0 t1 t2):=okT (by kernel_rfl) (by kernel_rfl) (by kernel_rfl)
def zcU(G:Sem')(t0 t1:V)(L:List V):M Res :=
 uL (Ax.slen t0) λt8 =>
 uB .lss (ug L 0) t8 λt9 =>
 M.ite t9
 (M.blk 1 (
 uL (Ax.sindex t0 (ug L 0)) λt14 =>
 uB .eql t14 t1 λt16 =>
 M.ite t16
 (M.pure (.ret [(V.bool true)]))
 (M.pure (.nrm []))) λ_ =>
 uB .add (ug L 0) (uc 1) λt11 =>
 M.pure (.nrm [t11]))
 (M.pure (.ex 0 []))
def ze8(G:Sem')(t0 t1:V):M Res :=
 M.blk 0 (
 M.iter (zcU G t0 t1) [(uc 0)]) λ_ =>
 M.pure (.ret [(V.bool false)])
theorem zhR{t0 t1:V}:OkT zaq [t0,t1] (ze8 (sem T) t0 t1):=okT (by kernel_rfl) (by kernel_rfl) (by kernel_rfl)
def zcC(G:Sem')(t1:V)(L:List V):M Res :=
 uB .lss (ug L 0) (uc 8) λt10 =>
 M.ite t10
 (M.blk 1 (
 uFM 4 t1 λt14 =>
 uL (Ax.cint .u64 (ug L 0)) λt16 =>
 uB .shr t14 t16 λt17 =>
 uB .and t17 (uc 1) λt18 =>
 uB .eql t18 (uc 1) λt19 =>
 uH t19 true (Ax.faddr 6 t1) λt22 =>
 uG t19 true (mload none t22) λt23 =>
 uG t19 true (M.pure (ug L 0)) λt24 =>
 uH t19 true (Ax.iaddr none 1 t23 t24) λt25 =>
 uG t19 true (mload none t25) λt26 =>
 uH t19 true (Ax.bin .gtr t26 (ub 63)) λt27 =>
 uL (Ax.pick t19 t27 (V.bool false)) λt28 =>
 uG t28 false (M.pure t19) λt30 =>
 uH t28 false (Ax.un .not t30) λt31 =>
 uG t28 false (M.pure t31) λt32 =>
 uH t32 true (Ax.faddr 6 t1) λt33 =>
 uG t32 true (mload none t33) λt34 =>
 uG t32 true (M.pure (ug L 0)) λt35 =>
 uH t32 true (Ax.iaddr none 1 t34 t35) λt36 =>
 uG t32 true (mload none t36) λt37 =>
 uH t32 true (Ax.bin .neq t37 (ub 255)) λt38 =>
 uH t28 false (Ax.pick t32 t38 (V.bool false)) λt39 =>
 uL (Ax.pick t28 (V.bool true) t39) λt40 =>
 M.ite t40
 (M.pure (.ret [(V.bool false)]))
 (M.pure (.nrm []))) λ_ =>
 uB .add (ug L 0) (uc 1) λt12 =>
 M.pure (.nrm [t12]))
 (M.pure (.ex 0 []))
def zei(G:Sem')(t0:V):M Res :=
 uO zab t0 λt1 =>
 uFM 6 t1 λt6 =>
 uL (vlen t6) λt7 =>
 uB .neq t7 (uc 8) λt8 =>
 M.ite t8
 (M.pure (.ret [(V.bool false)]))
 (M.blk 0 (
 M.iter (zcC G t1) [(uc 0)]) λ_ =>
 M.pure (.ret [(V.bool true)]))
theorem zgT{t0:V}:OkT zbN [t0] (zei (sem T) t0):=okT (by kernel_rfl) (by kernel_rfl) (by kernel_rfl)
def zbX(G:Sem')(t1 t6:V)(L:List V):M Res :=
 uB .geq (ug L 1) (uc 0) λt15 =>
 M.ite t15
 (M.blk 1 (
 uB .mul (uc 8) (ug L 1) λt21 =>
 uL (Ax.cint .u64 t21) λt22 =>
 uB .shr t1 t22 λt23 =>
 uL (Ax.cint .u8 t23) λt24 =>
 (mslit zak 1 [(ub 0)] [(0,1,t24)]).bind λt25 =>
 (mappend zak 1 1 (ug L 0) t25).bind λt26 =>
 M.pure (.nrm [t26])) λL0 =>
 uB .sub (ug L 1) (uc 1) λt17 =>
 M.pure (.nrm [(ug L0 0),t17]))
 (M.pure (.ex 0 [(ug L 0)]))
def zet(G:Sem')(t0 t1 t2:V):M Res :=
 (mslit zak 0 [(ub 0)] []).bind λt9 =>
 (mappend zak 1 1 t9 t0).bind λt11 =>
 uB .sub t2 (uc 1) λt13 =>
 M.blk 0 (
 M.iter (zbX G t1 V.nils) [t11,t13]) λL1 =>
 M.pure (.ret [(ug L1 0)])
theorem zfT{t0 t1 t2:V}:OkT zaD [t0,t1,t2] (zet (sem T) t0 t1 t2):=okT (by kernel_rfl) (by kernel_rfl) (by kernel_rfl)
def zhv(G:Sem')(t0 t1:V):M Res :=
 uO zah (V.agg [(V.bool false),(V.bool false),(V.bool false),(V.bool false),(V.bool false),(V.bool false),(V.bool false),(V.bool false),(uc 0),(uc 0),(uc 0),(uc 0),(uc 0),(uc 0),(uc 0),(uc 0),(uc 0),(V.bool false),(uc 0),(uc 0),(uc 0),(uc 0),(uc 0),(uc 0),(uc 0),(uc 0),(uc 0),(uc 0),(uc 0),(uc 0),(uc 0),(uc 0),(uc 0),(uc 0),(uc 0),(uc 0),(uc 0),(uc 0),(V.bool false)]) λt4 =>
 uB .lss t1 (uc 0) λt7 =>
 uG t7 false (M.pure t1) λt9 =>
 uH t7 false (Ax.bin .geq t9 (uc 4)) λt10 =>
 uL (Ax.pick t7 (V.bool true) t10) λt11 =>
 M.ite t11
 (uL (Ax.build [(V.bool false),(V.bool false),(V.bool false),(V.bool false),(V.bool false),(V.bool false),(V.bool false),(V.bool false),(uc 0),(uc 0),(uc 0),(uc 0),(uc 0),(uc 0),(uc 0),(uc 0),(uc 0),(V.bool false),(uc 0),(uc 0),(uc 0),(uc 0),(uc 0),(uc 0),(uc 0),(uc 0),(uc 0),(uc 0),(uc 0),(uc 0),(uc 0),(uc 0),(uc 0),(uc 0),(uc 0),(uc 0),(uc 0),(uc 0),(V.bool false)] []) λt12 =>
 uT 39 t4 t12 λ_ =>
 uS 39 t4 λr0 =>
 M.pure (.ret [r0,(V.bool false)]))
 (uNF 0 t0 λt16 =>
 uI (some 4) 367 t16 t1 λt17 =>
 uF 0 t17 λt18 =>
 uS 39 t18 λt19 =>
 uT 39 t4 t19 λ_ =>
 uS 39 t4 λr0 =>
 M.pure (.ret [r0,(V.bool true)]))
theorem zkj{t0 t1:V}:OkT zcB [t0,t1] (zhv (sem T) t0 t1):=okT (by kernel_rfl) (by kernel_rfl) (by kernel_rfl)
def zgI(G:Sem')(t0 t1:V):M Res :=
 (G zeN [t1]).bind λt6 =>
 uL (Ax.un .not t6) λt7 =>
 M.ite t7
 (M.pure (.ret [(uc 0)]))
 (uNF 1470 t0 λt11 =>
 uIM (some 64) 1 t11 t1 λt13 =>
 (G zcn [t13]).bind λt14 =>
 M.pure (.ret [t14]))
theorem zjm{t0 t1:V}:OkT zck [t0,t1] (zgI (sem T) t0 t1):=okT (by kernel_rfl) (by kernel_rfl) (by kernel_rfl)
def zdV(G:Sem')(t0:V):M Res :=
 uNFM 1 t0 λt6 =>
 uL (vlen t6) λt7 =>
 M.pure (.ret [t7])
theorem zgf{t0:V}:OkT zcn [t0] (zdV (sem T) t0):=okT (by kernel_rfl) (by kernel_rfl) (by kernel_rfl)
def zel(G:Sem')(t0 t1 t2:V):M Res :=
 uL (Ax.build [(uc 0),(uc 0),(uc 0),(uc 0),(uc 0),(uc 0),V.nils] [(0,1,(uc 1)),(1,1,t2)]) λt15 =>
 (G zay [t15]).bind λt16 =>
 uL (Ax.build [(uc 0),(uc 0),(uc 0),V.nils] [(0,1,(uc 2)),(1,1,t1),(3,1,t16)]) λt17 =>
 (G zaG [t0,t17]).bind λt18 =>
 uL (Ax.build [(uc 0),(uc 0),(uc 0),V.nils] [(0,1,(uc 5)),(1,1,t1),(2,1,(uc 32))]) λt22 =>
 (G zaG [t0,t22]).bind λt23 =>
 uE 0 t23 λt24 =>
 uE 1 t23 λt25 =>
 uB .neq t25 (uc 0) λt27 =>
 uG t27 false (M.pure t24) λt29 =>
 uH t27 false (vlen t29) λt30 =>
 uH t27 false (Ax.bin .eql t30 (uc 0)) λt31 =>
 uL (Ax.pick t27 (V.bool true) t31) λt32 =>
 M.ite t32
 (M.pure (.ret [(uc 0),(V.bool false)]))
 (uL (vlen t24) λt36 =>
 uB .sub t36 (uc 1) λt37 =>
 uI none 3 t24 t37 λt38 =>
 uFM 2 t38 λt40 =>
 (G zbr [t40]).bind λt41 =>
 uE 0 t41 λt42 =>
 uE 1 t41 λt43 =>
 uO zab (V.agg [(uc 0),(uc 0),(uc 0),(uc 0),(uc 0),(uc 0),V.nils]) λt10 =>
 uT 7 t10 t42 λ_ =>
 uFM 2 t10 λt45 =>
 uB .eql t43 (uc 0) λt47 =>
 uH t47 true (Ax.faddr 0 t10) λt49 =>
 uG t47 true (mload none t49) λt50 =>
 uH t47 true (Ax.bin .eql t50 (uc 17)) λt51 =>
 uL (Ax.pick t47 t51 (V.bool false)) λt52 =>
 uH t52 true (Ax.faddr 1 t10) λt54 =>
 uG t52 true (mload none t54) λt55 =>
 uG t52 true (M.pure t2) λt56 =>
 uH t52 true (Ax.bin .eql t55 t56) λt57 =>
 uL (Ax.pick t52 t57 (V.bool false)) λt58 =>
 M.pure (.ret [t45,t58]))
theorem zgW{t0 t1 t2:V}:OkT za0 [t0,t1,t2] (zel (sem T) t0 t1 t2):=okT (by kernel_rfl) (by kernel_rfl) (by kernel_rfl)
end Go.Ax
/- FnS9 -/
namespace Go.Ax
open Go.Proofs
def zej(G:Sem')(t0:V):M Res :=
 uO zab (V.agg [(uc 0),(uc 0),(uc 0),(uc 0),(uc 0),(uc 0),V.nils]) λt2 =>
 uL (vlen t0) λt7 =>
 uB .lss t7 (uc 11) λt8 =>
 M.ite t8
 (uL (Ax.build [(uc 0),(uc 0),(uc 0),(uc 0),(uc 0),(uc 0),V.nils] []) λt9 =>
 uT 7 t2 t9 λ_ =>
 uS 7 t2 λr0 =>
 M.pure (.ret [r0,(uc 3)]))
 (uI none 1 t0 (uc 0) λt11 =>
 uM t11 λt12 =>
 uL (Ax.cint .i64 t12) λt13 =>
 uI none 1 t0 (uc 1) λt15 =>
 uM t15 λt16 =>
 uL (Ax.cint .i64 t16) λt17 =>
 uI none 1 t0 (uc 2) λt19 =>
 uM t19 λt20 =>
 uL (Ax.cint .i64 t20) λt21 =>
 M.getH.bind λh0 =>
 (G zaM [t0,(uc 3)]).bind λt23 =>
 M.getH.bind λh0' =>
 uU t19 h0 h0' λ_ =>
 uU t15 h0 h0' λ_ =>
 uU t11 h0 h0' λ_ =>
 M.getH.bind λh1 =>
 (G zaM [t0,(uc 5)]).bind λt25 =>
 M.getH.bind λh1' =>
 uU t19 h1 h1' λ_ =>
 uU t15 h1 h1' λ_ =>
 uU t11 h1 h1' λ_ =>
 M.getH.bind λh2 =>
 (G zaM [t0,(uc 7)]).bind λt27 =>
 M.getH.bind λh2' =>
 uU t19 h2 h2' λ_ =>
 uU t15 h2 h2' λ_ =>
 uU t11 h2 h2' λ_ =>
 uL (Ax.build [(uc 0),(uc 0),(uc 0),(uc 0),(uc 0),(uc 0),V.nils] [(0,1,t13),(1,1,t17),(2,1,t21),(3,1,t23),(4,1,t25),(5,1,t27),(6,1,V.nils)]) λt28 =>
 uO zab (V.agg [(uc 0),(uc 0),(uc 0),(uc 0),(uc 0),(uc 0),V.nils]) λt4 =>
 uT 7 t4 t28 λ_ =>
 (G zaM [t0,(uc 9)]).bind λt30 =>
 M.blk 0 (
 uB .gtr t30 (uc 200) λt33 =>
 M.ite t33
 (uL (Ax.build [(uc 0),(uc 0),(uc 0),(uc 0),(uc 0),(uc 0),V.nils] []) λt34 =>
 uT 7 t2 t34 λ_ =>
 uS 7 t2 λr0 =>
 M.pure (.ret [r0,(uc 4)]))
 (uL (vlen t0) λt38 =>
 uB .sub t38 (uc 11) λt39 =>
 uB .gtr t30 t39 λt40 =>
 M.ite t40
 (uL (Ax.build [(uc 0),(uc 0),(uc 0),(uc 0),(uc 0),(uc 0),V.nils] []) λt41 =>
 uT 7 t2 t41 λ_ =>
 uS 7 t2 λr0 =>
 M.pure (.ret [r0,(uc 3)]))
 (uL (vlen t0) λt45 =>
 uB .sub t45 (uc 11) λt46 =>
 uB .lss t30 t46 λt47 =>
 M.ite t47
 (uL (Ax.build [(uc 0),(uc 0),(uc 0),(uc 0),(uc 0),(uc 0),V.nils] []) λt48 =>
 uT 7 t2 t48 λ_ =>
 uS 7 t2 λr0 =>
 M.pure (.ret [r0,(uc 2)]))
 (M.pure (.nrm []))))) λ_ =>
 (mslit zak 0 [(ub 0)] []).bind λt49 =>
 uL (zaU .sl 1 t0 (some (uc 11)) none none) λt51 =>
 (mappend zak 1 1 t49 t51).bind λt52 =>
 uF 6 t4 λt53 =>
 uT 1 t53 t52 λ_ =>
 uS 7 t4 λt54 =>
 (G zas [t54]).bind λt55 =>
 uL (Ax.un .not t55) λt56 =>
 M.ite t56
 (uL (Ax.build [(uc 0),(uc 0),(uc 0),(uc 0),(uc 0),(uc 0),V.nils] []) λt57 =>
 uT 7 t2 t57 λ_ =>
 uS 7 t2 λr0 =>
 M.pure (.ret [r0,(uc 2)]))
 (uS 7 t4 λt58 =>
 uT 7 t2 t58 λ_ =>
 uS 7 t2 λr0 =>
 M.pure (.ret [r0,(uc 0)])))
theorem zgU{t0:V}:OkT zbr [t0] (zej (sem T) t0):=okT (by kernel_rfl) (by kernel_rfl) (by kernel_rfl)
def ze7(G:Sem')(t0 t1:V):M Res :=
 uIM none 1 t0 t1 λt8 =>
 uL (Ax.cint .i64 t8) λt9 =>
 uB .shl t9 (uq 8) λt10 =>
 uB .add t1 (uc 1) λt13 =>
 uIM none 1 t0 t13 λt15 =>
 uL (Ax.cint .i64 t15) λt16 =>
 uB .or t10 t16 λt17 =>
 M.pure (.ret [t17])
theorem zhQ{t0 t1:V}:OkT zaM [t0,t1] (ze7 (sem T) t0 t1):=okT (by kernel_rfl) (by kernel_rfl) (by kernel_rfl)
def zdI(G:Sem')(t2 t0 t1 t6:V)(L:List V):M Res :=
 uB .lss (ug L 1) t2 λt11 =>
 M.ite t11
 (M.blk 1 (
 uB .shl (ug L 0) (uq 8) λt15 =>
 uB .add t1 (ug L 1) λt19 =>
 uIM none 1 t0 t19 λt21 =>
 uL (Ax.cint .u64 t21) λt22 =>
 uB .or t15 t22 λt23 =>
 M.pure (.nrm [t23])) λL0 =>
 uB .add (ug L 1) (uc 1) λt13 =>
 M.pure (.nrm [(ug L0 0),t13]))
 (M.pure (.ex 0 [(ug L 0)]))
def zgD(G:Sem')(t0 t1 t2:V):M Res :=
 M.blk 0 (
 M.iter (zdI G t2 t0 t1 (uq 0)) [(uq 0),(uc 0)]) λL1 =>
 M.pure (.ret [(ug L1 0)])
theorem zjh{t0 t1 t2:V}:OkT zaA [t0,t1,t2] (zgD (sem T) t0 t1 t2):=okT (by kernel_rfl) (by kernel_rfl) (by kernel_rfl)
def zbP(G:Sem')(t5 t0 t4 t2 t3:V)(L:List V):M Res :=
 uB .lss (ug L 0) t5 λt60 =>
 M.ite t60
 (M.blk 1 (
 uF 5 t4 λt63 =>
 uM t63 λt64 =>
 uB .mul (uc 4) (ug L 0) λt67 =>
 uB .add (uc 12) t67 λt68 =>
 M.getH.bind λh3 =>
 (G zaA [t0,t68,(uc 4)]).bind λt69 =>
 M.getH.bind λh3' =>
 uU t63 h3 h3' λ_ =>
 uL (Ax.cint .u32 t69) λt70 =>
 (mslit zeD 1 [(V.int .u32 0)] [(0,1,t70)]).bind λt71 =>
 (mappend zeD 1 4 t64 t71).bind λt72 =>
 uF 5 t4 λt73 =>
 uT 1 t73 t72 λ_ =>
 M.pure (.nrm [])) λ_ =>
 uB .add (ug L 0) (uc 1) λt62 =>
 M.pure (.nrm [t62]))
 (M.pure (.ex 0 []))
def zeP(G:Sem')(t0:V):M Res :=
 let p:=V.int .u32 0
 uO zai (V.agg [(V.bool false),(uc 0),(V.int .u16 0),p,p,V.nils,(uc 0),V.nils,(uc 0),V.nils]) λt2 =>
 uL (vlen t0) λt13 =>
 uB .gtr t13 (uc 1200) λt14 =>
 M.ite t14
 (uL (Ax.build [(V.bool false),(uc 0),(V.int .u16 0),p,p,V.nils,(uc 0),V.nils,(uc 0),V.nils] []) λt15 =>
 uT 10 t2 t15 λ_ =>
 uS 10 t2 λr0 =>
 M.pure (.ret [r0,(uc 4)]))
 (uL (vlen t0) λt17 =>
 uB .lss t17 (uc 12) λt18 =>
 M.ite t18
 (uL (Ax.build [(V.bool false),(uc 0),(V.int .u16 0),p,p,V.nils,(uc 0),V.nils,(uc 0),V.nils] []) λt19 =>
 uT 10 t2 t19 λ_ =>
 uS 10 t2 λr0 =>
 M.pure (.ret [r0,(uc 3)]))
 (uIM none 1 t0 (uc 0) λt22 =>
 uB .shr t22 (uq 6) λt23 =>
 uB .neq t23 (ub 2) λt24 =>
 M.ite t24
 (uL (Ax.build [(V.bool false),(uc 0),(V.int .u16 0),p,p,V.nils,(uc 0),V.nils,(uc 0),V.nils] []) λt25 =>
 uT 10 t2 t25 λ_ =>
 uS 10 t2 λr0 =>
 M.pure (.ret [r0,(uc 2)]))
 (uI none 1 t0 (uc 1) λt27 =>
 uM t27 λt28 =>
 uB .gtr t28 (ub 127) λt29 =>
 uI none 1 t0 (uc 1) λt31 =>
 uM t31 λt32 =>
 uB .and t32 (ub 127) λt33 =>
 uL (Ax.cint .i64 t33) λt34 =>
 M.getH.bind λh0 =>
 (G zaA [t0,(uc 2),(uc 2)]).bind λt36 =>
 M.getH.bind λh0' =>
 uU t31 h0 h0' λ_ =>
 uU t27 h0 h0' λ_ =>
 M.getH.bind λh1 =>
 (G zaA [t0,(uc 4),(uc 4)]).bind λt39 =>
 M.getH.bind λh1' =>
 uU t31 h1 h1' λ_ =>
 uU t27 h1 h1' λ_ =>
 M.getH.bind λh2 =>
 (G zaA [t0,(uc 8),(uc 4)]).bind λt42 =>
 M.getH.bind λh2' =>
 uU t31 h2 h2' λ_ =>
 uU t27 h2 h2' λ_ =>
 uL (Ax.cint .u16 t36) λt37 =>
 uL (Ax.cint .u32 t39) λt40 =>
 uL (Ax.cint .u32 t42) λt43 =>
 uL (Ax.build [(V.bool false),(uc 0),(V.int .u16 0),p,p,V.nils,(uc 0),V.nils,(uc 0),V.nils] [(0,1,t29),(1,1,t34),(2,1,t37),(3,1,t40),(4,1,t43)]) λt44 =>
 uO zai (V.agg [(V.bool false),(uc 0),(V.int .u16 0),p,p,V.nils,(uc 0),V.nils,(uc 0),V.nils]) λt4 =>
 uT 10 t4 t44 λ_ =>
 uIM none 1 t0 (uc 0) λt47 =>
 uB .and t47 (ub 15) λt48 =>
 uL (Ax.cint .i64 t48) λt49 =>
 uB .mul (uc 4) t49 λt51 =>
 uB .add (uc 12) t51 λt52 =>
 uL (vlen t0) λt55 =>
 uB .gtr t52 t55 λt56 =>
 M.ite t56
 (uL (Ax.build [(V.bool false),(uc 0),(V.int .u16 0),p,p,V.nils,(uc 0),V.nils,(uc 0),V.nils] []) λt57 =>
 uT 10 t2 t57 λ_ =>
 uS 10 t2 λr0 =>
 M.pure (.ret [r0,(uc 3)]))
 (M.blk 0 (
 M.iter (zbP G t49 t0 t4 t2 (uc 0)) [(uc 0)]) λ_ =>
 uIM none 1 t0 (uc 0) λt76 =>
 uB .shr t76 (uq 4) λt77 =>
 uB .and t77 (ub 1) λt78 =>
 uB .eql t78 (ub 1) λt79 =>
 M.join (M.ite t79
 (uB .add t52 (uc 4) λt81 =>
 uL (vlen t0) λt83 =>
 uB .gtr t81 t83 λt84 =>
 M.ite t84
 (uL (Ax.build [(V.bool false),(uc 0),(V.int .u16 0),p,p,V.nils,(uc 0),V.nils,(uc 0),V.nils] []) λt85 =>
 uT 10 t2 t85 λ_ =>
 uS 10 t2 λr0 =>
 M.pure (.ret [r0,(uc 3)]))
 ((G zaA [t0,t52,(uc 2)]).bind λt88 =>
 uL (Ax.cint .i64 t88) λt89 =>
 uF 6 t4 λt90 =>
 uT 1 t90 t89 λ_ =>
 uB .add t52 (uc 2) λt93 =>
 (G zaA [t0,t93,(uc 2)]).bind λt94 =>
 uL (Ax.cint .i64 t94) λt95 =>
 uB .add t52 (uc 4) λt97 =>
 uB .mul (uc 4) t95 λt100 =>
 uB .add t97 t100 λt101 =>
 uL (vlen t0) λt103 =>
 uB .gtr t101 t103 λt104 =>
 M.ite t104
 (uL (Ax.build [(V.bool false),(uc 0),(V.int .u16 0),p,p,V.nils,(uc 0),V.nils,(uc 0),V.nils] []) λt105 =>
 uT 10 t2 t105 λ_ =>
 uS 10 t2 λr0 =>
 M.pure (.ret [r0,(uc 3)]))
 (uFM 6 t4 λt107 =>
 uB .neq t107 (uc 48862) λt108 =>
 uH t108 true (Ax.faddr 6 t4) λt110 =>
 uG t108 true (mload none t110) λt111 =>
 uH t108 true (Ax.bin .neq t111 (uc 4096)) λt112 =>
 uL (Ax.pick t108 t112 (V.bool false)) λt113 =>
 M.ite t113
 (uL (Ax.build [(V.bool false),(uc 0),(V.int .u16 0),p,p,V.nils,(uc 0),V.nils,(uc 0),V.nils] []) λt114 =>
 uT 10 t2 t114 λ_ =>
 uS 10 t2 λr0 =>
 M.pure (.ret [r0,(uc 2)]))
 (uB .mul (uc 4) t95 λt120 =>
 uB .add t97 t120 λt121 =>
 uL (zaU .sl 1 t0 (some t97) (some t121) none) λt122 =>
 uFM 6 t4 λt124 =>
 (G zbb [t122,t124]).bind λt125 =>
 uE 0 t125 λt126 =>
 uE 1 t125 λt127 =>
 uL (Ax.un .not t127) λt129 =>
 M.ite t129
 (uL (Ax.build [(V.bool false),(uc 0),(V.int .u16 0),p,p,V.nils,(uc 0),V.nils,(uc 0),V.nils] []) λt130 =>
 uT 10 t2 t130 λ_ =>
 uS 10 t2 λr0 =>
 M.pure (.ret [r0,(uc 2)]))
 (uF 7 t4 λt132 =>
 uT 1 t132 t126 λ_ =>
 uB .mul (uc 4) t95 λt135 =>
 uB .add t97 t135 λt136 =>
 M.pure (.nrm [t136]))))))
 (M.pure (.nrm [t52]))) λL2 =>
 uL (vlen t0) λt138 =>
 uIM none 1 t0 (uc 0) λt141 =>
 uB .shr t141 (uq 5) λt142 =>
 uB .and t142 (ub 1) λt143 =>
 uB .eql t143 (ub 1) λt144 =>
 M.join (M.ite t144
 (uL (vlen t0) λt147 =>
 uB .sub t147 (uc 1) λt148 =>
 uIM none 1 t0 t148 λt150 =>
 uL (Ax.cint .i64 t150) λt151 =>
 uF 8 t4 λt152 =>
 uT 1 t152 t151 λ_ =>
 uFM 8 t4 λt154 =>
 uB .eql t154 (uc 0) λt155 =>
 uH t155 false (Ax.faddr 8 t4) λt157 =>
 uG t155 false (mload none t157) λt158 =>
 uG t155 false (M.pure t0) λt159 =>
 uH t155 false (vlen t159) λt160 =>
 uG t155 false (M.pure (ug L2 0)) λt161 =>
 uH t155 false (Ax.bin .sub t160 t161) λt162 =>
 uH t155 false (Ax.bin .gtr t158 t162) λt163 =>
 uL (Ax.pick t155 (V.bool true) t163) λt164 =>
 M.ite t164
 (uL (Ax.build [(V.bool false),(uc 0),(V.int .u16 0),p,p,V.nils,(uc 0),V.nils,(uc 0),V.nils] []) λt165 =>
 uT 10 t2 t165 λ_ =>
 uS 10 t2 λr0 =>
 M.pure (.ret [r0,(uc 2)]))
 (uL (vlen t0) λt167 =>
 uFM 8 t4 λt169 =>
 uB .sub t167 t169 λt170 =>
 M.pure (.nrm [t170])))
 (M.pure (.nrm [t138]))) λL3 =>
 (mslit zak 0 [(ub 0)] []).bind λt171 =>
 uL (zaU .sl 1 t0 (some (ug L2 0)) (some (ug L3 0)) none) λt175 =>
 (mappend zak 1 1 t171 t175).bind λt176 =>
 uF 9 t4 λt177 =>
 uT 1 t177 t176 λ_ =>
 uS 10 t4 λt178 =>
 uT 10 t2 t178 λ_ =>
 uS 10 t2 λr0 =>
 M.pure (.ret [r0,(uc 0)])))))
theorem zhx{t0:V}:OkT zb0 [t0] (zeP (sem T) t0):=okT (by kernel_rfl) (by kernel_rfl) (by kernel_rfl)
def zdr(G:Sem')(t1 t0:V)(L:List V):M Res :=
 uL (vlen t0) λt13 =>
 uB .lss (ug L 1) t13 λt14 =>
 M.ite t14
 (M.blk 1 (
 uIM none 1 t0 (ug L 1) λt18 =>
 uB .eql t18 (ub 0) λt19 =>
 M.ite t19
 (uB .add (ug L 1) (uc 1) λt21 =>
 M.pure (.ex 1 [(ug L 0),t21]))
 (uIM none 1 t0 (ug L 1) λt25 =>
 uL (Ax.cint .i64 t25) λt26 =>
 uB .add (ug L 1) (uc 2) λt28 =>
 uB .eql t1 (uc 48862) λt30 =>
 M.join (M.ite t30
 (uIM none 1 t0 (ug L 1) λt34 =>
 uB .shr t34 (uq 4) λt35 =>
 uL (Ax.cint .i64 t35) λt36 =>
 uIM none 1 t0 (ug L 1) λt40 =>
 uB .and t40 (ub 15) λt41 =>
 uL (Ax.cint .i64 t41) λt42 =>
 uB .add t42 (uc 1) λt43 =>
 uB .add (ug L 1) (uc 1) λt45 =>
 uB .eql t36 (uc 15) λt47 =>
 M.ite t47
 (M.pure (.ret [(ug L 0),(V.bool true)]))
 (uB .eql t36 (uc 0) λt50 =>
 M.ite t50
 (M.pure (.ret [V.nils,(V.bool false)]))
 (M.pure (.nrm [t36,t43,t45]))))
 (uB .add (ug L 1) (uc 1) λt52 =>
 uL (vlen t0) λt54 =>
 uB .lss t52 t54 λt55 =>
 M.join (M.ite t55
 (uB .add (ug L 1) (uc 1) λt58 =>
 uIM none 1 t0 t58 λt60 =>
 uL (Ax.cint .i64 t60) λt61 =>
 M.pure (.nrm [t61]))
 (M.pure (.nrm [(uc 0)]))) λL0 =>
 M.pure (.nrm [t26,(ug L0 0),t28]))) λL1 =>
 uL (vlen t0) λt64 =>
 uB .gtr (ug L1 2) t64 λt65 =>
 uG t65 false (M.pure (ug L1 1)) λt67 =>
 uG t65 false (M.pure t0) λt68 =>
 uH t65 false (vlen t68) λt69 =>
 uG t65 false (M.pure (ug L1 2)) λt70 =>
 uH t65 false (Ax.bin .sub t69 t70) λt71 =>
 uH t65 false (Ax.bin .gtr t67 t71) λt72 =>
 uL (Ax.pick t65 (V.bool true) t72) λt73 =>
 M.ite t73
 (M.pure (.ret [V.nils,(V.bool false)]))
 ((mslit zak 0 [(ub 0)] []).bind λt76 =>
 uB .add (ug L1 2) (ug L1 1) λt81 =>
 uL (zaU .sl 1 t0 (some (ug L1 2)) (some t81) none) λt82 =>
 (mappend zak 1 1 t76 t82).bind λt83 =>
 uL (Ax.build [(uc 0),V.nils] [(0,1,(ug L1 0)),(1,1,t83)]) λt84 =>
 (mslit zbu 1 [(uc 0),V.nils] [(0,2,t84)]).bind λt85 =>
 (mappend zbu 2 32 (ug L 0) t85).bind λt86 =>
 uB .add (ug L1 2) (ug L1 1) λt89 =>
 M.pure (.nrm [t86,t89])))) λL2 =>
 M.pure (.nrm [(ug L2 0),(ug L2 1)]))
 (M.pure (.ex 0 [(ug L 0)]))
def zdX(G:Sem')(t0 t1:V):M Res :=
 M.blk 0 (
 M.iter (zdr G t1 t0) [V.nils,(uc 0)]) λL3 =>
 M.pure (.ret [(ug L3 0),(V.bool true)])
theorem zgh{t0 t1:V}:OkT zbb [t0,t1] (zdX (sem T) t0 t1):=okT (by kernel_rfl) (by kernel_rfl) (by kernel_rfl)
def zcb(G:Sem')(t0 t2:V)(L:List V):M Res :=
 uB .leq (ug L 1) (uc 10) λt6 =>
 M.ite t6
 (M.blk 1 (
 (G za2 [t0,(ug L 1)]).bind λt12 =>
 uB .add (ug L 0) t12 λt13 =>
 M.pure (.nrm [t13])) λL0 =>
 uB .add (ug L 1) (uc 1) λt8 =>
 M.pure (.nrm [(ug L0 0),t8]))
 (M.pure (.ex 0 [(ug L 0)]))
def zdY(G:Sem')(t0:V):M Res :=
 M.blk 0 (
 M.iter (zcb G t0 (uc 0)) [(uc 0),(uc 1)]) λL1 =>
 M.pure (.ret [(ug L1 0)])
theorem zgi{t0:V}:OkT zbc [t0] (zdY (sem T) t0):=okT (by kernel_rfl) (by kernel_rfl) (by kernel_rfl)
end Go.Ax
/- FnS10 -/
namespace Go.Ax
open Go.Proofs
def zaT(G:Sem')(t9:V)(L:List V):M Res :=
 uB .lss (ug L 0) (uc 2) λt34 =>
 M.ite t34
 (M.blk 1 (
 uB .add (uc 40) (ug L 0) λt40 =>
 (G za0 [t9,t40,(uc 0)]).bind λt41 =>
 uE 0 t41 λt42 =>
 uE 1 t41 λt43 =>
 uL (Ax.un .not t43) λt45 =>
 M.ite t45
 (M.pure (.ret [(V.bool false)]))
 (M.pure (.nrm []))) λ_ =>
 uB .add (ug L 0) (uc 1) λt36 =>
 M.pure (.nrm [t36]))
 (M.pure (.ex 0 []))
def zaS(G:Sem')(t13 t9:V)(L:List V):M Res :=
 uB .lss (ug L 0) (uc 2) λt66 =>
 M.ite t66
 (M.blk 5 (
 uB .add (uc 40) (ug L 0) λt71 =>
 uB .add t13 (uc 1) λt73 =>
 uL (Ax.build [(uc 0),(uc 0),(uc 0),(uc 0),(uc 0),(uc 0),V.nils] [(0,1,(uc 8)),(3,1,t73)]) λt74 =>
 (G zay [t74]).bind λt75 =>
 uL (Ax.build [(uc 0),(uc 0),(uc 0),V.nils] [(0,1,(uc 2)),(1,1,t71),(3,1,t75)]) λt76 =>
 (G zaG [t9,t76]).bind λt77 =>
 uB .add (uc 40) (ug L 0) λt80 =>
 uL (Ax.build [(uc 0),(uc 0),(uc 0),V.nils] [(0,1,(uc 5)),(1,1,t80),(2,1,(uc 32))]) λt81 =>
 (G zaG [t9,t81]).bind λt82 =>
 M.pure (.nrm [])) λ_ =>
 uB .add (ug L 0) (uc 1) λt68 =>
 M.pure (.nrm [t68]))
 (M.pure (.ex 4 []))
def zaR(G:Sem')(t0 t9:V)(L:List V):M Res :=
 uB .rem t0 (ub 5) λt48 =>
 uL (Ax.cint .i64 t48) λt49 =>
 uB .lss (ug L 0) t49 λt50 =>
 M.ite t50
 (M.blk 3 (
 (G za0 [t9,(uc 50),(uc 0)]).bind λt55 =>
 uE 0 t55 λt56 =>
 uE 1 t55 λt57 =>
 uL (Ax.un .not t57) λt59 =>
 M.ite t59
 (M.pure (.ret [(V.bool false)]))
 (uL (Ax.build [(uc 0),(uc 0),(uc 0),(uc 0),(uc 0),(uc 0),V.nils] [(0,1,(uc 2))]) λt61 =>
 (G zay [t61]).bind λt62 =>
 uL (Ax.build [(uc 0),(uc 0),(uc 0),V.nils] [(0,1,(uc 2)),(1,1,(uc 50)),(3,1,t62)]) λt63 =>
 (G zaG [t9,t63]).bind λt64 =>
 M.blk 4 (
 M.iter (zaS G (ug L 0) t9) [(uc 0)]) λ_ =>
 uL (Ax.build [(uc 0),(uc 0),(uc 0),V.nils] [(0,1,(uc 5)),(1,1,(uc 50)),(2,1,(uc 32))]) λt84 =>
 (G zaG [t9,t84]).bind λt85 =>
 M.pure (.nrm []))) λ_ =>
 uB .add (ug L 0) (uc 1) λt52 =>
 M.pure (.nrm [t52]))
 (M.pure (.ex 2 []))
def zdd(G:Sem')(t0 t1 t2 t3:V):M Res :=
 let o:=V.int .u8 0
 (G zfD []).bind λt26 =>
 (G zbs []).bind λt27 =>
 uL (Ax.un .not t27) λt28 =>
 uG t28 false (M.pure t26) λt30 =>
 uH t28 false (eqr .ptr false t30 V.nilp) λt31 =>
 uL (Ax.pick t28 (V.bool true) t31) λt32 =>
 M.ite t32
 (M.pure (.ret [(V.bool false)]))
 (M.blk 0 (
 M.iter (zaT G t26) [(uc 0)]) λ_ =>
 M.blk 2 (
 M.iter (zaR G t0 t26) [(uc 0)]) λ_ =>
 (G zcB [t26,(uc 0)]).bind λt88 =>
 uE 0 t88 λt89 =>
 uE 1 t88 λt90 =>
 uO zah (V.agg [(V.bool false),(V.bool false),(V.bool false),(V.bool false),(V.bool false),(V.bool false),(V.bool false),(V.bool false),(uc 0),(uc 0),(uc 0),(uc 0),(uc 0),(uc 0),(uc 0),(uc 0),(uc 0),(V.bool false),(uc 0),(uc 0),(uc 0),(uc 0),(uc 0),(uc 0),(uc 0),(uc 0),(uc 0),(uc 0),(uc 0),(uc 0),(uc 0),(uc 0),(uc 0),(uc 0),(uc 0),(uc 0),(uc 0),(uc 0),(V.bool false)]) λt17 =>
 uT 39 t17 t89 λ_ =>
 uF 16 t17 λt91 =>
 uS 6 t91 λt92 =>
 uL (Ax.build [(V.bool false),(V.bool false),(V.bool false),(V.bool false),(V.bool false),(V.bool false),(V.bool false),(V.bool false),(uc 0),(uc 0),(uc 0),(uc 0),(uc 0),(uc 0),(uc 0),(uc 0),(uc 0),(V.bool false),(uc 0),(uc 0),(uc 0),(uc 0),(uc 0),(uc 0),(uc 0),(uc 0),(uc 0),(uc 0),(uc 0),(uc 0),(uc 0),(uc 0),(uc 0),(uc 0),(uc 0),(uc 0),(uc 0),(uc 0),(V.bool false)] []) λt93 =>
 uL (Ax.field 16 (some 6) t93) λt94 =>
 uL (eqr (.st [.int,.bool,.int,.int,.int,.int]) true t92 t94) λt95 =>
 uH t95 true (Ax.faddr 16 t17) λt97 =>
 uH t95 true (Ax.faddr 0 t97) λt98 =>
 uG t95 true (mload none t98) λt99 =>
 uG t95 true (M.pure t0) λt100 =>
 uH t95 true (Ax.bin .rem t100 (ub 5)) λt101 =>
 uH t95 true (Ax.cint .i64 t101) λt102 =>
 uH t95 true (Ax.bin .neq t99 t102) λt103 =>
 uL (Ax.pick t95 t103 (V.bool false)) λt104 =>
 M.ite t104
 (M.pure (.ret [(V.bool false)]))
 ((mslit zak 4 [o] [(0,1,o),(1,1,o),(2,1,o),(3,1,(ub 77))]).bind λt106 =>
 uL (Ax.build [(uc 0),(uc 0),(uc 0),(uc 0),(uc 0),(uc 0),V.nils] [(0,1,(uc 4)),(6,1,t106)]) λt107 =>
 (G zay [t107]).bind λt108 =>
 uL (Ax.build [(uc 0),(uc 0),(uc 0),V.nils] [(0,1,(uc 2)),(1,1,(uc 40)),(3,1,t108)]) λt109 =>
 (G zaG [t26,t109]).bind λt110 =>
 uB .rem t1 (ub 8) λt112 =>
 uL (Ax.cint .u64 t112) λt113 =>
 uB .shl t113 (uq 8) λt114 =>
 uB .rem t3 (ub 32) λt116 =>
 uL (Ax.cint .u64 t116) λt117 =>
 uB .shl t117 (uq 3) λt118 =>
 uB .or t114 t118 λt119 =>
 uB .rem t2 (ub 8) λt121 =>
 uL (Ax.cint .u64 t121) λt122 =>
 uB .or t119 t122 λt123 =>
 (G zbj [(V.int .u32 77),(V.int .u16 1),(V.int .u16 1),(V.bool true),o,V.nils]).bind λt125 =>
 (G zb0 [t125]).bind λt126 =>
 uE 0 t126 λt127 =>
 uE 1 t126 λt128 =>
 uO zai (V.agg [(V.bool false),(uc 0),(V.int .u16 0),(V.int .u32 0),(V.int .u32 0),V.nils,(uc 0),V.nils,(uc 0),V.nils]) λt20 =>
 uT 10 t20 t127 λ_ =>
 (mslit zak 1 [o] [(0,1,(ub 144))]).bind λt129 =>
 uB .shr t123 (uq 8) λt131 =>
 uL (Ax.cint .u8 t131) λt132 =>
 uL (Ax.cint .u8 t123) λt134 =>
 (mslit zak 2 [o] [(0,1,t132),(1,1,t134)]).bind λt135 =>
 (mappend zak 1 1 t129 t135).bind λt136 =>
 uF 9 t20 λt137 =>
 uT 1 t137 t136 λ_ =>
 uB .lss t123 (uq 256) λt139 =>
 M.join (M.ite t139
 (uL (Ax.cint .u8 t123) λt141 =>
 (mslit zak 2 [o] [(0,1,(ub 128)),(1,1,t141)]).bind λt142 =>
 uF 9 t20 λt143 =>
 uT 1 t143 t142 λ_ =>
 M.pure (.nrm []))
 (M.pure (.nrm []))) λ_ =>
 uB .lss t123 (uq 8) λt145 =>
 M.join (M.ite t145
 (uL (Ax.cint .u8 t123) λt147 =>
 uB .shl t147 (uq 4) λt148 =>
 (mslit zak 1 [o] [(0,1,t148)]).bind λt149 =>
 uF 9 t20 λt150 =>
 uT 1 t150 t149 λ_ =>
 M.pure (.nrm []))
 (M.pure (.nrm []))) λ_ =>
 uS 10 t20 λt152 =>
 (G zb1 [t152]).bind λt153 =>
 uE 0 t153 λt154 =>
 uE 1 t153 λt155 =>
 uL (Ax.build [(uc 0),(uc 0),(uc 0),V.nils] [(0,1,(uc 1)),(1,1,(uc 40)),(3,1,t154)]) λt158 =>
 (G zaG [t26,t158]).bind λt159 =>
 uB .rem t0 (ub 5) λt161 =>
 uL (Ax.cint .i64 t161) λt162 =>
 uB .rem t2 (ub 8) λt164 =>
 uB .eql t164 o λt165 =>
 uG t165 true (M.pure t1) λt167 =>
 uH t165 true (Ax.bin .rem t167 (ub 8)) λt168 =>
 uH t165 true (Ax.cint .i64 t168) λt169 =>
 uG t165 true (M.pure t162) λt170 =>
 uH t165 true (Ax.bin .eql t169 t170) λt171 =>
 uG t165 true (M.pure t171) λt172 =>
 uG t172 false (M.pure t1) λt173 =>
 uH t172 false (Ax.bin .rem t173 (ub 8)) λt174 =>
 uH t172 false (Ax.cint .i64 t174) λt175 =>
 uG t172 false (M.pure t162) λt176 =>
 uH t172 false (Ax.bin .sub t176 (uc 1)) λt177 =>
 uH t172 false (Ax.bin .eql t175 t177) λt178 =>
 uH t165 true (Ax.pick t172 (V.bool true) t178) λt179 =>
 uL (Ax.pick t165 t179 (V.bool false)) λt180 =>
 (G za2 [t26,(uc 6)]).bind λt182 =>
 uB .eql t182 (uc 0) λt183 =>
 uL (eqr .bool false t183 t180) λt185 =>
 uG t185 true (M.pure t26) λt187 =>
 uG t185 true (G zbc [t187]) λt188 =>
 uG t185 true (M.pure t26) λt189 =>
 uG t185 true (G za2 [t189,(uc 6)]) λt190 =>
 uH t185 true (Ax.bin .eql t188 t190) λt191 =>
 uL (Ax.pick t185 t191 (V.bool false)) λt192 =>
 M.pure (.ret [t192])))
theorem zfa{t0 t1 t2 t3:V}:OkT zbk [t0,t1,t2,t3] (zdd (sem T) t0 t1 t2 t3):=okT (by kernel_rfl) (by kernel_rfl) (by kernel_rfl)
end Go.Ax
/- FnS11 -/
namespace Go.Ax
open Go.Proofs
def zcM(G:Sem')(t1 t2 t3:V)(L:List V):M Res :=
 uFM 5 t1 λt55 =>
 uL (vlen t55) λt56 =>
 uB .lss (ug L 1) t56 λt57 =>
 M.ite t57
 (M.blk 1 (
 uFM 5 t1 λt62 =>
 uIM none 1 t62 (ug L 1) λt65 =>
 uL (Ax.cint .u64 t65) λt66 =>
 (G zaD [(ug L 0),t66,(uc 4)]).bind λt67 =>
 M.pure (.nrm [t67])) λL0 =>
 uB .add (ug L 1) (uc 1) λt59 =>
 M.pure (.nrm [(ug L0 0),t59]))
 (M.pure (.ex 0 [(ug L 0)]))
def zbR(G:Sem')(t1 t2 t3:V)(L:List V):M Res :=
 uFM 7 t1 λt74 =>
 uL (vlen t74) λt75 =>
 uB .lss (ug L 1) t75 λt76 =>
 M.ite t76
 (M.blk 3 (
 uFM 7 t1 λt80 =>
 uI none 2 t80 (ug L 1) λt82 =>
 uFM 1 t82 λt84 =>
 uL (vlen t84) λt85 =>
 uFM 6 t1 λt87 =>
 uB .eql t87 (uc 48862) λt88 =>
 M.join (M.ite t88
 (uFM 7 t1 λt91 =>
 uI none 2 t91 (ug L 1) λt93 =>
 uFM 0 t93 λt95 =>
 uB .mul (uc 16) t95 λt96 =>
 uB .add t96 t85 λt98 =>
 uB .sub t98 (uc 1) λt99 =>
 uL (Ax.cint .u8 t99) λt100 =>
 (mslit zak 1 [(ub 0)] [(0,1,t100)]).bind λt101 =>
 (mappend zak 1 1 (ug L 0) t101).bind λt102 =>
 M.pure (.nrm [t102]))
 (uFM 7 t1 λt105 =>
 uI none 2 t105 (ug L 1) λt107 =>
 uFM 0 t107 λt109 =>
 uL (Ax.cint .u8 t109) λt110 =>
 uL (Ax.cint .u8 t85) λt112 =>
 (mslit zak 2 [(ub 0)] [(0,1,t110),(1,1,t112)]).bind λt113 =>
 (mappend zak 1 1 (ug L 0) t113).bind λt114 =>
 M.pure (.nrm [t114]))) λL2 =>
 uFM 7 t1 λt117 =>
 uI none 2 t117 (ug L 1) λt119 =>
 uFM 1 t119 λt121 =>
 (mappend zak 1 1 (ug L2 0) t121).bind λt122 =>
 M.pure (.nrm [t122])) λL3 =>
 uB .add (ug L 1) (uc 1) λt78 =>
 M.pure (.nrm [(ug L3 0),t78]))
 (M.pure (.ex 2 [(ug L 0)]))
def zbQ(G:Sem')(t2 t3:V)(L:List V):M Res :=
 uL (vlen (ug L 0)) λt124 =>
 uB .rem t124 (uc 4) λt125 =>
 uB .neq t125 (uc 0) λt126 =>
 M.ite t126
 (M.blk 5 (
 (mslit zak 1 [(ub 0)] [(0,1,(ub 0))]).bind λt128 =>
 (mappend zak 1 1 (ug L 0) t128).bind λt129 =>
 M.pure (.nrm [t129])) λL5 =>
 M.pure (.nrm [(ug L5 0)]))
 (M.pure (.ex 4 [(ug L 0)]))
def zeQ(G:Sem')(t0:V):M Res :=
 uO zai t0 λt1 =>
 uS 10 t1 λt9 =>
 (G zcg [t9]).bind λt10 =>
 uL (Ax.un .not t10) λt11 =>
 M.ite t11
 (M.pure (.ret [V.nils,(uc 1)]))
 (uFM 8 t1 λt13 =>
 uB .gtr t13 (uc 0) λt14 =>
 uF 6 t1 λt18 =>
 uM t18 λt19 =>
 uB .neq t19 (uc 0) λt20 =>
 uF 5 t1 λt24 =>
 uM t24 λt25 =>
 uL (vlen t25) λt26 =>
 uF 0 t1 λt29 =>
 uM t29 λt30 =>
 uF 1 t1 λt33 =>
 uM t33 λt34 =>
 M.getH.bind λh0 =>
 (G zbv [t14]).bind λt15 =>
 M.getH.bind λh0' =>
 uU t33 h0 h0' λ_ =>
 uU t29 h0 h0' λ_ =>
 uU t24 h0 h0' λ_ =>
 uU t18 h0 h0' λ_ =>
 M.getH.bind λh1 =>
 (G zbv [t20]).bind λt21 =>
 M.getH.bind λh1' =>
 uU t33 h1 h1' λ_ =>
 uU t29 h1 h1' λ_ =>
 uU t24 h1 h1' λ_ =>
 M.getH.bind λh2 =>
 (G zbv [t30]).bind λt31 =>
 M.getH.bind λh2' =>
 uU t33 h2 h2' λ_ =>
 uU t24 h2 h2' λ_ =>
 uB .mul (uc 32) t15 λt16 =>
 uB .add (uc 128) t16 λt17 =>
 uB .mul (uc 16) t21 λt22 =>
 uB .add t17 t22 λt23 =>
 uB .add t23 t26 λt27 =>
 uL (Ax.cint .u8 t27) λt28 =>
 uB .mul (uc 128) t31 λt32 =>
 uB .add t32 t34 λt35 =>
 uL (Ax.cint .u8 t35) λt36 =>
 (mslit zak 2 [(ub 0)] [(0,1,t28),(1,1,t36)]).bind λt37 =>
 uFM 2 t1 λt40 =>
 uL (Ax.cint .u64 t40) λt41 =>
 (G zaD [t37,t41,(uc 2)]).bind λt42 =>
 uFM 3 t1 λt45 =>
 uL (Ax.cint .u64 t45) λt46 =>
 (G zaD [t42,t46,(uc 4)]).bind λt47 =>
 uFM 4 t1 λt50 =>
 uL (Ax.cint .u64 t50) λt51 =>
 (G zaD [t47,t51,(uc 4)]).bind λt52 =>
 M.blk 0 (
 M.iter (zcM G t1 V.nils (uc 0)) [t52,(uc 0)]) λL1 =>
 uFM 6 t1 λt69 =>
 uB .neq t69 (uc 0) λt70 =>
 M.join (M.ite t70
 ((mslit zak 0 [(ub 0)] []).bind λt71 =>
 M.blk 2 (
 M.iter (zbR G t1 V.nils (uc 0)) [t71,(uc 0)]) λL4 =>
 M.blk 4 (
 M.iter (zbQ G V.nils (uc 0)) [(ug L4 0)]) λL6 =>
 uL (vlen (ug L6 0)) λt131 =>
 uB .gtr t131 (uc 1200) λt132 =>
 M.ite t132
 (M.pure (.ret [V.nils,(uc 4)]))
 (uFM 6 t1 λt135 =>
 uL (Ax.cint .u64 t135) λt136 =>
 (G zaD [(ug L1 0),t136,(uc 2)]).bind λt137 =>
 uL (vlen (ug L6 0)) λt139 =>
 uB .quo t139 (uc 4) λt140 =>
 uL (Ax.cint .u64 t140) λt141 =>
 (G zaD [t137,t141,(uc 2)]).bind λt142 =>
 (mappend zak 1 1 t142 (ug L6 0)).bind λt145 =>
 M.pure (.nrm [t145])))
 (M.pure (.nrm [(ug L1 0)]))) λL7 =>
 uFM 9 t1 λt148 =>
 (mappend zak 1 1 (ug L7 0) t148).bind λt149 =>
 uFM 8 t1 λt151 =>
 uB .gtr t151 (uc 0) λt152 =>
 M.join (M.ite t152
 (uFM 8 t1 λt155 =>
 uB .sub t155 (uc 1) λt156 =>
 uF 8 t1 λt158 =>
 uM t158 λt159 =>
 uL (Ax.cint .u8 t159) λt160 =>
 M.getH.bind λh3 =>
 (mappendz zak 1 [(ub 0)] t149 t156).bind λt157 =>
 M.getH.bind λh3' =>
 uU t158 h3 h3' λ_ =>
 (mslit zak 1 [(ub 0)] [(0,1,t160)]).bind λt161 =>
 (mappend zak 1 1 t157 t161).bind λt162 =>
 M.pure (.nrm [t162]))
 (M.pure (.nrm [t149]))) λL8 =>
 uL (vlen (ug L8 0)) λt164 =>
 uB .gtr t164 (uc 1200) λt165 =>
 M.ite t165
 (M.pure (.ret [V.nils,(uc 4)]))
 (M.pure (.ret [(ug L8 0),(uc 0)])))
theorem zhy{t0:V}:OkT zb1 [t0] (zeQ (sem T) t0):=okT (by kernel_rfl) (by kernel_rfl) (by kernel_rfl)
def zb2(G:Sem')(t1:V)(L:List V):M Res :=
 uFM 7 t1 λt55 =>
 uL (vlen t55) λt56 =>
 uB .lss (ug L 0) t56 λt57 =>
 M.ite t57
 (M.blk 1 (
 uFM 7 t1 λt61 =>
 uI none 2 t61 (ug L 0) λt63 =>
 uS 2 t63 λt64 =>
 uO zbu (V.agg [(uc 0),V.nils]) λt4 =>
 uT 2 t4 t64 λ_ =>
 uFM 6 t1 λt66 =>
 uB .eql t66 (uc 48862) λt67 =>
 uH t67 true (Ax.faddr 0 t4) λt69 =>
 uG t67 true (mload none t69) λt70 =>
 uH t67 true (Ax.bin .lss t70 (uc 1)) λt71 =>
 uG t67 true (M.pure t71) λt72 =>
 uH t72 false (Ax.faddr 0 t4) λt73 =>
 uG t72 false (mload none t73) λt74 =>
 uH t72 false (Ax.bin .gtr t74 (uc 14)) λt75 =>
 uH t67 true (Ax.pick t72 (V.bool true) t75) λt76 =>
 uG t67 true (M.pure t76) λt77 =>
 uH t77 false (Ax.faddr 1 t4) λt78 =>
 uG t77 false (mload none t78) λt79 =>
 uH t77 false (vlen t79) λt80 =>
 uH t77 false (Ax.bin .lss t80 (uc 1)) λt81 =>
 uH t67 true (Ax.pick t77 (V.bool true) t81) λt82 =>
 uG t67 true (M.pure t82) λt83 =>
 uH t83 false (Ax.faddr 1 t4) λt84 =>
 uG t83 false (mload none t84) λt85 =>
 uH t83 false (vlen t85) λt86 =>
 uH t83 false (Ax.bin .gtr t86 (uc 16)) λt87 =>
 uH t67 true (Ax.pick t83 (V.bool true) t87) λt88 =>
 uL (Ax.pick t67 t88 (V.bool false)) λt89 =>
 uH t89 false (Ax.faddr 6 t1) λt91 =>
 uG t89 false (mload none t91) λt92 =>
 uH t89 false (Ax.bin .eql t92 (uc 4096)) λt93 =>
 uG t89 false (M.pure t93) λt94 =>
 uH t94 true (Ax.faddr 0 t4) λt95 =>
 uG t94 true (mload none t95) λt96 =>
 uH t94 true (Ax.bin .lss t96 (uc 1)) λt97 =>
 uG t94 true (M.pure t97) λt98 =>
 uH t98 false (Ax.faddr 0 t4) λt99 =>
 uG t98 false (mload none t99) λt100 =>
 uH t98 false (Ax.bin .gtr t100 (uc 255)) λt101 =>
 uH t94 true (Ax.pick t98 (V.bool true) t101) λt102 =>
 uG t94 true (M.pure t102) λt103 =>
 uH t103 false (Ax.faddr 1 t4) λt104 =>
 uG t103 false (mload none t104) λt105 =>
 uH t103 false (vlen t105) λt106 =>
 uH t103 false (Ax.bin .gtr t106 (uc 255)) λt107 =>
 uH t94 true (Ax.pick t103 (V.bool true) t107) λt108 =>
 uH t89 false (Ax.pick t94 t108 (V.bool false)) λt109 =>
 uL (Ax.pick t89 (V.bool true) t109) λt110 =>
 M.ite t110
 (M.pure (.ret [(V.bool false)]))
 (M.pure (.nrm []))) λ_ =>
 uB .add (ug L 0) (uc 1) λt59 =>
 M.pure (.nrm [t59]))
 (M.pure (.ex 0 []))
def ze6(G:Sem')(t0:V):M Res :=
 uO zai t0 λt1 =>
 uFM 1 t1 λt6 =>
 uB .lss t6 (uc 0) λt7 =>
 uH t7 false (Ax.faddr 1 t1) λt9 =>
 uG t7 false (mload none t9) λt10 =>
 uH t7 false (Ax.bin .gtr t10 (uc 127)) λt11 =>
 uL (Ax.pick t7 (V.bool true) t11) λt12 =>
 uH t12 false (Ax.faddr 5 t1) λt14 =>
 uG t12 false (mload none t14) λt15 =>
 uH t12 false (vlen t15) λt16 =>
 uH t12 false (Ax.bin .gtr t16 (uc 15)) λt17 =>
 uL (Ax.pick t12 (V.bool true) t17) λt18 =>
 uH t18 false (Ax.faddr 8 t1) λt20 =>
 uG t18 false (mload none t20) λt21 =>
 uH t18 false (Ax.bin .lss t21 (uc 0)) λt22 =>
 uL (Ax.pick t18 (V.bool true) t22) λt23 =>
 uH t23 false (Ax.faddr 8 t1) λt25 =>
 uG t23 false (mload none t25) λt26 =>
 uH t23 false (Ax.bin .gtr t26 (uc 255)) λt27 =>
 uL (Ax.pick t23 (V.bool true) t27) λt28 =>
 M.ite t28
 (M.pure (.ret [(V.bool false)]))
 (uFM 6 t1 λt30 =>
 uB .neq t30 (uc 0) λt31 =>
 uH t31 true (Ax.faddr 6 t1) λt33 =>
 uG t31 true (mload none t33) λt34 =>
 uH t31 true (Ax.bin .neq t34 (uc 48862)) λt35 =>
 uL (Ax.pick t31 t35 (V.bool false)) λt36 =>
 uH t36 true (Ax.faddr 6 t1) λt38 =>
 uG t36 true (mload none t38) λt39 =>
 uH t36 true (Ax.bin .neq t39 (uc 4096)) λt40 =>
 uL (Ax.pick t36 t40 (V.bool false)) λt41 =>
 uH t41 false (Ax.faddr 6 t1) λt43 =>
 uG t41 false (mload none t43) λt44 =>
 uH t41 false (Ax.bin .eql t44 (uc 0)) λt45 =>
 uG t41 false (M.pure t45) λt46 =>
 uH t46 true (Ax.faddr 7 t1) λt47 =>
 uG t46 true (mload none t47) λt48 =>
 uH t46 true (vlen t48) λt49 =>
 uH t46 true (Ax.bin .gtr t49 (uc 0)) λt50 =>
 uH t41 false (Ax.pick t46 t50 (V.bool false)) λt51 =>
 uL (Ax.pick t41 (V.bool true) t51) λt52 =>
 M.ite t52
 (M.pure (.ret [(V.bool false)]))
 (M.blk 0 (
 M.iter (zb2 G t1) [(uc 0)]) λ_ =>
 M.pure (.ret [(V.bool true)])))
theorem zhP{t0:V}:OkT zcg [t0] (ze6 (sem T) t0):=okT (by kernel_rfl) (by kernel_rfl) (by kernel_rfl)
def zfG(G:Sem')(t0:V):M Res :=
 M.ite t0
 (M.pure (.ret [(uc 1)]))
 (M.pure (.ret [(uc 0)]))
theorem ziu{t0:V}:OkT zbv [t0] (zfG (sem T) t0):=okT (by kernel_rfl) (by kernel_rfl) (by kernel_rfl)
end Go.Ax
/- Dk1 -/
namespace Go.Ax.SU
open Go.Ax
structure AtS (S:List Nat) (H H':Heap):Prop where
 next:H.next≤H'.next
 same:∀i,i<H.next→i∉S→H'.get i=H.get i
theorem AtS.refl(S:List Nat)(H:Heap):AtS S H H:=⟨Nat.le_refl _,λ_ _ _=>rfl⟩
theorem AtS.trans{S:List Nat}{H H1 H2:Heap}(h:AtS S H H1)(g:AtS S H1 H2):AtS S H H2:=⟨Nat.le_trans h.next g.next,λi hi hk=>by rw[g.same i (Nat.lt_of_lt_of_le hi h.next) hk,h.same i hi hk]⟩
theorem _root_.Go.Ax.Grow.atS{H H':Heap}(h:Grow H H')(S:List Nat):AtS S H H':=⟨h.next,λi hi _=>h.same i hi⟩
theorem AtS.set{S:List Nat}(H:Heap){k:Nat}(h:k∈S)(b:Option Blk):AtS S H (H.set k b):=⟨Nat.le_refl _,λi _ hk=>zap _ _ (λe=>hk (e ▸ h))⟩
theorem AtS.mono{S S':List Nat}{H H':Heap}(h:AtS S H H')(g:∀i∈S,i∈S'):AtS S' H H':=⟨h.next,λi hi hk=>h.same i hi λe=>hk (g i e)⟩
theorem AtS.grow{H H':Heap} (h:AtS [] H H'):Grow H H':=⟨h.next,λi hi=>h.same i hi (by simp)⟩
theorem AtS.new{S:List Nat}{H0 H H':Heap}(g:Grow H0 H)(h:AtS S H H')(hS:∀i∈S,H0.next≤i):Grow H0 H' :=
 ⟨Nat.le_trans g.next h.next,λi hi=>by rw[h.same i (Nat.lt_of_lt_of_le hi g.next) (λe=>by have:=hS i e; omega),g.same i hi]⟩
theorem _root_.Go.Ax.Lc.atS{e lo n:Nat}{S:List Nat}{H H':Heap}{v:V}{cells:List V}(h:Lc e lo H v cells n)(s:AtS S H H')(hk:∀i,v.pid=some i→i∉S):Lc e lo H' v cells n :=
 ⟨by rw[zbL λi hi=>s.same i (h.own i hi).2 (hk i hi)]; exact h.rc,λi hi=>⟨(h.own i hi).1,Nat.lt_of_lt_of_le (h.own i hi).2 s.next⟩,h.cap⟩
theorem copy8{β:Type}{lo:Nat}{H:Heap}{y:V}{l:List Nat}{f:V→M β}{Q:β→Heap→Prop}(hy:By lo H y l)(hl:l.length≤140737488355328)
  (k:∀x' H',Ab H.next H' x' l→Grow H H'→Ok (f x') H' Q):Ok ((mappend zak 1 1 (.sl H.next 0 0 (.fix 0)) y).bind f) (H.new ⟨zak,[],none⟩) Q :=
 okb_copy hy.ac (λi hi=>(hy.own i hi).2) (by rw[List.length_map]; omega) (by omega) (by omega) λx' H' h g=>k x' H' (.app h) g
theorem U_ok{lo:Nat}{H:Heap}{bv:V}{b:List Nat}(n k:Nat)(hb:By lo H bv b)(hn:n<18446744073709551616)(hk:k≤16)(hbl:b.length≤1099511627000):Ok (sem T zaD [bv,.int .u64 (n:Nat),.int .i64 (k:Nat)]) H λr H'=>Ab H.next H' r (b++num n k)∧Grow H H':=by
 refine zfT ?_;unfold zet uB uc ub ug;simp(disch:=omega)only[↓RD,RZ];rw[zcG];refine copy8 hb (by omega) λx0 H0' hx0 s0=>?_;simp(disch:=omega)only[↓RD,RZ];refine za3 (λm L H'=>∃w,L=[w,.int .i64 ((k:Int)-1-(m:Nat))]∧Ab H.next H' w (b++(bn k n).take m)∧Bel H.next H H') k ?_ ?_ ?_
 ·exact⟨x0,by simp,by simpa using hx0,s0.bel (Nat.le_refl _)⟩
 ·rintro m L H1 hm ⟨w,rfl,ha,hb'⟩;have e1:(k:Int)-1-(m:Nat)=((k-1-m:Nat):Int):=by omega
  have e2:(8:Int)*((k-1-m:Nat):Int)=((8*(k-1-m):Nat):Int):=by omega
  have e2':IntKind.u64.wrap ((8*(k-1-m):Nat):Int)=((8*(k-1-m):Nat):Int):=by rw[wrap_u64]; omega
  have e3:shr n (8*(k-1-m))=n/256 ^ (k-1-m):=by rw[zhI,Nat.shiftRight_eq_div_pow,Nat.pow_mul]
  have hlo1:=hb'.next;have hbg:=bn_get k n m hm;rw[e1];generalize hw:k-1-m=w' at *;have e8:IntKind.u8.wrap ((n/256 ^ w':Nat):Int)=((n/256 ^ w'%256:Nat):Int):=by rw[wrap_u8]; rfl
  unfold zbX uL uB uc ub ug;simp(disch:=omega)only[↓RD,RZ,e2,e2',e3,e8];refine okb_ab (m:=[n/256 ^ w'%256]) (Apf.keep ha ((Grow.new _ _).keep _)) (by rw[zaf]; omega) (zbS rfl) (by rw[List.length_append,List.length_take,bn_len]; simp; omega) λw2 H2 h2 hb2=>?_;simp(disch:=omega)only[↓RD,RZ];refine⟨w2,by rw[show((w':Nat):Int)-1=(k:Int)-1-((m+1:Nat):Int) by omega],?_,hb'.trans (((Grow.new _ _).bel (by omega)).trans hb2)⟩;rw[take_snoc (by rw[bn_len]; exact hm),hbg,←List.append_assoc];exact h2
 ·rintro L H1 ⟨w,rfl,ha,hb'⟩;have e1:(k:Int)-1-(k:Nat) = -1:=by omega
  rw[e1];unfold zbX uL uB uc ub ug;simp(disch:=omega)only[↓RD,RZ];rw[List.take_of_length_le (by rw[bn_len]; exact Nat.le_refl _)]at ha;exact⟨ha,hb'.grow⟩
theorem Ab.nil{lo:Nat}{H:Heap}:Ab lo H .nils []:=.app .nil
theorem eq_nils{lo:Nat}{H:Heap}{v:V}{l:List Nat}(hv:By lo H v l):(v = .nils∧l=[])∨Ax.eqr .sl false v .nils=some (.bool false):=by
 rcases hv.cases with⟨rfl,h,_⟩|⟨id,off,cap,b,rfl,_⟩|⟨cs,rfl,_⟩
 ·exact .inl ⟨rfl,by simpa using h⟩
 ·exact .inr rfl
 ·exact .inr rfl
theorem zsx{lo:Nat}{H:Heap}{v:V}{l:List Nat}(hv:By lo H v l)(hl:l.length≤140737488355328):Ok (sem T zbF [v]) H λr H'=>Ab H.next H' r l∧Grow H H':=by
 refine ziB ?_;unfold zhc uL ub;rcases eq_nils hv with⟨rfl,rfl⟩|e
 ·have e:Ax.eqr .sl false .nils .nils=some (.bool true):=rfl;simp(disch:=omega)only[↓RD,RZ,e];exact⟨Ab.nil,Grow.refl _⟩
 ·simp(disch:=omega)only[↓RD,RZ,e];rw[zcG];refine copy8 hv hl λx0 H0' hx0 s0=>?_;simp(disch:=omega)only[↓RD,RZ];exact⟨hx0,s0⟩
/-! Notes. -/
theorem zgq{H:Heap}(x m:Int):Ok (sem T zbE [.int .i64 x,.int .i64 m]) H λr H'=>r = .bool (decide (0≤x)&&decide (x≤m))∧H'=H:=by
 refine znh ?_;unfold zjP uL uB uG uH uc;by_cases h:0≤x
 ·have d:decide ((0:Int)≤x)=true:=decide_eq_true h;simp(disch:=omega)only[↓RD,RZ,d,Bool.true_and]
 ·have d:decide ((0:Int)≤x)=false:=decide_eq_false h;simp(disch:=omega)only[↓RD,RZ,d,Bool.false_and]
def bnd(k:Int):List Int×Bool :=
 if k=1 then ([3,0,0,0,0,0,0],true) else if k=2∨k=9∨k=23 then ([0,0,0,0,0,0,0],true) else if k=3∨k=6 then ([0,7,0,0,0,0,0],true) else
 if k=4 then ([0,0,0,2,65535,4,4],true) else if k=5 then ([0,7,0,3,7,0,0],true) else if k=7∨k=21 then ([0,7,65535,31,0,1,200],true) else
 if k=8∨k=22 then ([0,0,65535,0,0,0,0],true) else if k=17 then ([3,7,65535,255,65535,8,8],true) else if k=18 then ([0,0,0,13,9,0,0],true) else
 if k=19 then ([0,7,65535,255,63,0,0],true) else if k=20 then ([0,7,65535,255,0,0,0],true) else if k=24 then ([0,7,0,0,0,4,4],true) else ([0,0,0,0,0,0,0],false)
theorem of_ok{H:Heap}(k:Int):Ok (sem T zio [.int .i64 k]) H λr H'=>r = .tup [.agg ((bnd k).1.map (.int .i64)),.bool (bnd k).2]∧Grow H H':=by
 refine ztj ?_;unfold zqw uL uS uT uB uO uc ug;have fin:∀cs:List V,Grow H ((H.new ⟨zez,[.int .i64 0,.int .i64 0,.int .i64 0,.int .i64 0,.int .i64 0,.int .i64 0,.int .i64 0],none⟩).set H.next (some ⟨zez,cs,none⟩)):=λcs=>(Grow.new _ _).set (Nat.le_refl _) _;by_cases h1:k=1
 ·subst h1; simp(maxSteps:=1000000) (disch:=first|omega|(simp only[RY]<;>omega)|decide)only[↓RD,RZ,eq_self,Int.reduceToNat,Int.reduceAdd,Int.reduceSub,Int.reduceMul,Nat.reduceAdd,Nat.reduceSub,Nat.reduceMul,Nat.reduceDiv,Nat.reduceMod,Nat.reduceBEq,Nat.reduceLeDiff]; exact⟨rfl,fin _⟩
 by_cases h2:k=2
 ·subst h2; simp(maxSteps:=1000000) (disch:=first|omega|(simp only[RY]<;>omega)|decide)only[↓RD,RZ,eq_self,Int.reduceToNat,Int.reduceAdd,Int.reduceSub,Int.reduceMul,Nat.reduceAdd,Nat.reduceSub,Nat.reduceMul,Nat.reduceDiv,Nat.reduceMod,Nat.reduceBEq,Nat.reduceLeDiff]; exact⟨rfl,fin _⟩
 by_cases h3:k=9
 ·subst h3; simp(maxSteps:=1000000) (disch:=first|omega|(simp only[RY]<;>omega)|decide)only[↓RD,RZ,eq_self,Int.reduceToNat,Int.reduceAdd,Int.reduceSub,Int.reduceMul,Nat.reduceAdd,Nat.reduceSub,Nat.reduceMul,Nat.reduceDiv,Nat.reduceMod,Nat.reduceBEq,Nat.reduceLeDiff]; exact⟨rfl,fin _⟩
 by_cases h4:k=23
 ·subst h4; simp(maxSteps:=1000000) (disch:=first|omega|(simp only[RY]<;>omega)|decide)only[↓RD,RZ,eq_self,Int.reduceToNat,Int.reduceAdd,Int.reduceSub,Int.reduceMul,Nat.reduceAdd,Nat.reduceSub,Nat.reduceMul,Nat.reduceDiv,Nat.reduceMod,Nat.reduceBEq,Nat.reduceLeDiff]; exact⟨rfl,fin _⟩
 by_cases h5:k=3
 ·subst h5; simp(maxSteps:=1000000) (disch:=first|omega|(simp only[RY]<;>omega)|decide)only[↓RD,RZ,eq_self,Int.reduceToNat,Int.reduceAdd,Int.reduceSub,Int.reduceMul,Nat.reduceAdd,Nat.reduceSub,Nat.reduceMul,Nat.reduceDiv,Nat.reduceMod,Nat.reduceBEq,Nat.reduceLeDiff]; exact⟨rfl,fin _⟩
 by_cases h6:k=6
 ·subst h6; simp(maxSteps:=1000000) (disch:=first|omega|(simp only[RY]<;>omega)|decide)only[↓RD,RZ,eq_self,Int.reduceToNat,Int.reduceAdd,Int.reduceSub,Int.reduceMul,Nat.reduceAdd,Nat.reduceSub,Nat.reduceMul,Nat.reduceDiv,Nat.reduceMod,Nat.reduceBEq,Nat.reduceLeDiff]; exact⟨rfl,fin _⟩
 by_cases h7:k=4
 ·subst h7; simp(maxSteps:=1000000) (disch:=first|omega|(simp only[RY]<;>omega)|decide)only[↓RD,RZ,eq_self,Int.reduceToNat,Int.reduceAdd,Int.reduceSub,Int.reduceMul,Nat.reduceAdd,Nat.reduceSub,Nat.reduceMul,Nat.reduceDiv,Nat.reduceMod,Nat.reduceBEq,Nat.reduceLeDiff]; exact⟨rfl,fin _⟩
 by_cases h8:k=5
 ·subst h8; simp(maxSteps:=1000000) (disch:=first|omega|(simp only[RY]<;>omega)|decide)only[↓RD,RZ,eq_self,Int.reduceToNat,Int.reduceAdd,Int.reduceSub,Int.reduceMul,Nat.reduceAdd,Nat.reduceSub,Nat.reduceMul,Nat.reduceDiv,Nat.reduceMod,Nat.reduceBEq,Nat.reduceLeDiff]; exact⟨rfl,fin _⟩
 by_cases h9:k=7
 ·subst h9; simp(maxSteps:=1000000) (disch:=first|omega|(simp only[RY]<;>omega)|decide)only[↓RD,RZ,eq_self,Int.reduceToNat,Int.reduceAdd,Int.reduceSub,Int.reduceMul,Nat.reduceAdd,Nat.reduceSub,Nat.reduceMul,Nat.reduceDiv,Nat.reduceMod,Nat.reduceBEq,Nat.reduceLeDiff]; exact⟨rfl,fin _⟩
 by_cases h10:k=21
 ·subst h10; simp(maxSteps:=1000000) (disch:=first|omega|(simp only[RY]<;>omega)|decide)only[↓RD,RZ,eq_self,Int.reduceToNat,Int.reduceAdd,Int.reduceSub,Int.reduceMul,Nat.reduceAdd,Nat.reduceSub,Nat.reduceMul,Nat.reduceDiv,Nat.reduceMod,Nat.reduceBEq,Nat.reduceLeDiff]; exact⟨rfl,fin _⟩
 by_cases h11:k=8
 ·subst h11; simp(maxSteps:=1000000) (disch:=first|omega|(simp only[RY]<;>omega)|decide)only[↓RD,RZ,eq_self,Int.reduceToNat,Int.reduceAdd,Int.reduceSub,Int.reduceMul,Nat.reduceAdd,Nat.reduceSub,Nat.reduceMul,Nat.reduceDiv,Nat.reduceMod,Nat.reduceBEq,Nat.reduceLeDiff]; exact⟨rfl,fin _⟩
 by_cases h12:k=22
 ·subst h12; simp(maxSteps:=1000000) (disch:=first|omega|(simp only[RY]<;>omega)|decide)only[↓RD,RZ,eq_self,Int.reduceToNat,Int.reduceAdd,Int.reduceSub,Int.reduceMul,Nat.reduceAdd,Nat.reduceSub,Nat.reduceMul,Nat.reduceDiv,Nat.reduceMod,Nat.reduceBEq,Nat.reduceLeDiff]; exact⟨rfl,fin _⟩
 by_cases h13:k=17
 ·subst h13; simp(maxSteps:=1000000) (disch:=first|omega|(simp only[RY]<;>omega)|decide)only[↓RD,RZ,eq_self,Int.reduceToNat,Int.reduceAdd,Int.reduceSub,Int.reduceMul,Nat.reduceAdd,Nat.reduceSub,Nat.reduceMul,Nat.reduceDiv,Nat.reduceMod,Nat.reduceBEq,Nat.reduceLeDiff]; exact⟨rfl,fin _⟩
 by_cases h14:k=18
 ·subst h14; simp(maxSteps:=1000000) (disch:=first|omega|(simp only[RY]<;>omega)|decide)only[↓RD,RZ,eq_self,Int.reduceToNat,Int.reduceAdd,Int.reduceSub,Int.reduceMul,Nat.reduceAdd,Nat.reduceSub,Nat.reduceMul,Nat.reduceDiv,Nat.reduceMod,Nat.reduceBEq,Nat.reduceLeDiff]; exact⟨rfl,fin _⟩
 by_cases h15:k=19
 ·subst h15; simp(maxSteps:=1000000) (disch:=first|omega|(simp only[RY]<;>omega)|decide)only[↓RD,RZ,eq_self,Int.reduceToNat,Int.reduceAdd,Int.reduceSub,Int.reduceMul,Nat.reduceAdd,Nat.reduceSub,Nat.reduceMul,Nat.reduceDiv,Nat.reduceMod,Nat.reduceBEq,Nat.reduceLeDiff]; exact⟨rfl,fin _⟩
 by_cases h16:k=20
 ·subst h16; simp(maxSteps:=1000000) (disch:=first|omega|(simp only[RY]<;>omega)|decide)only[↓RD,RZ,eq_self,Int.reduceToNat,Int.reduceAdd,Int.reduceSub,Int.reduceMul,Nat.reduceAdd,Nat.reduceSub,Nat.reduceMul,Nat.reduceDiv,Nat.reduceMod,Nat.reduceBEq,Nat.reduceLeDiff]; exact⟨rfl,fin _⟩
 by_cases h17:k=24
 ·subst h17; simp(maxSteps:=1000000) (disch:=first|omega|(simp only[RY]<;>omega)|decide)only[↓RD,RZ,eq_self,Int.reduceToNat,Int.reduceAdd,Int.reduceSub,Int.reduceMul,Nat.reduceAdd,Nat.reduceSub,Nat.reduceMul,Nat.reduceDiv,Nat.reduceMod,Nat.reduceBEq,Nat.reduceLeDiff]; exact⟨rfl,fin _⟩
 have eb:bnd k=([0,0,0,0,0,0,0],false):=by simp[bnd, *]
 have f:∀c:Int,k≠c→(k==c)=false:=λc h=>by simpa using h
 have f1:=f _ h1;have f2:=f _ h2;have f3:=f _ h3;have f4:=f _ h4;have f5:=f _ h5;have f6:=f _ h6;have f7:=f _ h7;have f8:=f _ h8;have f9:=f _ h9;have f10:=f _ h10;have f11:=f _ h11;have f12:=f _ h12;have f13:=f _ h13;have f14:=f _ h14;have f15:=f _ h15;have f16:=f _ h16;have f17:=f _ h17;simp(maxSteps:=1000000) (disch:=first|omega|(simp only[RY]<;>omega)|decide)only[↓RD,RZ,eq_self,Int.reduceToNat,Int.reduceAdd,Int.reduceSub,Int.reduceMul,Nat.reduceAdd,Nat.reduceSub,Nat.reduceMul,Nat.reduceDiv,Nat.reduceMod,Nat.reduceBEq,Nat.reduceLeDiff,f1,f2,f3,f4,f5,f6,f7,f8,f9,f10,f11,f12,f13,f14,f15,f16,f17];rw[eb];exact⟨rfl,fin _⟩
end Go.Ax.SU
/- Dk2 -/
namespace Go.Ax.SU
open Go.Ax
theorem zam(cs:List V):(V.agg cs).cells=cs:=rfl
theorem okb_ldr{n:Option Nat}{H:Heap}{p c:V}{f:V→M Res}{Q:Res→Heap→Prop}(h:LdR n H p c) (k:Ok (f c) H Q):Ok ((mload n p).bind f) H Q:=by
 have:=(h f Q).2 k
 rwa [zcG]at this
theorem zbi{β:Type}{H:Heap}{ty:TypeId}{n:Nat}{zs cs:List V}{f:V→V→M β}{Q:β→Heap→Prop}(hz:zs.length=n)(hl:cs.length=n) (k:∀q H',q=H.next→H'.get q=some ⟨ty,cs,none⟩→Grow H H'→H'.next=H.next+1→Ok (f (.ptr q 0) .undef) H' Q) :
  Ok ((mbox ty (.agg zs)).bind λt=>(mstore n t (.agg cs)).bind λu=>f t u) H Q:=by
 refine zao (zaK rfl ?_);rw[zam];have g:=zac H ⟨ty,zs,none⟩;refine zao (zsd g (by rw[zam]; exact hl) (by show 0+n≤zs.length; omega) rfl ?_);refine k _ _ rfl ?_ ((Grow.new _ _).set (Nat.le_refl _) _) rfl;rw[zan,zam];congr 2;unfold splice;rw[List.take_zero,List.nil_append,List.drop_of_length_le (by show zs.length≤0+cs.length; omega),List.append_nil]
structure Nt where
 k:Int
 r:Int
 s:Int
 e:Int
 n:Int
 m:Int
 b:List Nat
def nC(x:Nt)(bv:V):List V:=[.int .i64 x.k,.int .i64 x.r,.int .i64 x.s,.int .i64 x.e,.int .i64 x.n,.int .i64 x.m,bv]
theorem bnd_form(k:Int):∃a0 a1 a2 a3 a4 a5 a6 o,bnd k=([a0,a1,a2,a3,a4,a5,a6],o):=by
 have hl:(bnd k).1.length=7:=by
  have key:∀(c:Prop) [Decidable c] (a b:List Int×Bool),a.1.length=7→b.1.length=7→(if c then a else b).1.length=7:=by
   intro c _ a b ha hb;split<;>assumption
  unfold bnd
  repeat (first|exact rfl|refine key _ _ _ rfl ?_)
 rcases h:bnd k with⟨l,o⟩
 rw[h]at hl;rcases l with _|⟨a0,_|⟨a1,_|⟨a2,_|⟨a3,_|⟨a4,_|⟨a5,_|⟨a6,_|⟨a7,l⟩⟩⟩⟩⟩⟩⟩⟩<;>simp at hl
 exact⟨a0,a1,a2,a3,a4,a5,a6,o,rfl⟩
def zfb(x:Nt):Bool :=
 (bnd x.k).2&&((decide (0≤x.r)&&decide (x.r≤(bnd x.k).1.getD 0 0))&&((decide (0≤x.s)&&decide (x.s≤(bnd x.k).1.getD 1 0))&&((decide (0≤x.e)&&decide (x.e≤(bnd x.k).1.getD 2 0)) &&
  ((decide (0≤x.n)&&decide (x.n≤(bnd x.k).1.getD 3 0))&&((decide (0≤x.m)&&decide (x.m≤(bnd x.k).1.getD 4 0))&&(!decide ((x.b.length:Int)<(bnd x.k).1.getD 5 0)&&(!decide ((bnd x.k).1.getD 6 0<(x.b.length:Int))&&(if x.k=18 then decide (1≤x.n) else true))))))))
def Pl3(x:Nt):Prop:=x.k≠17∧x.k≠19∧x.k≠20
theorem zmv{lo:Nat}{H:Heap}{x:Nt}{bv:V}(hb:By lo H bv x.b)(hk:Pl3 x):Ok (sem T zc8 [.agg (nC x bv)]) H λr H'=>r = .bool (zfb x)∧Grow H H':=by
 refine zfU ?_;unfold zfI uL uS uT uFM uE uB uG uH uO uc;obtain⟨k,r,s,e,n,m,b⟩:=x;obtain⟨hk1,hk2,hk3⟩:=hk;dsimp only at hk1 hk2 hk3 hb;have vc:=hb.cells1;have vo:=hb.okc;refine zao (zaK (by simp[nC,V.okc,vo]) ?_);rw[zam];have s0:=Grow.new H ⟨zae,nC ⟨k,r,s,e,n,m,b⟩ bv,none⟩;have g0:(H.new ⟨zae,nC ⟨k,r,s,e,n,m,b⟩ bv,none⟩).get H.next=some ⟨zae,nC ⟨k,r,s,e,n,m,b⟩ bv,none⟩:=zac _ _;have n0:(H.new ⟨zae,nC ⟨k,r,s,e,n,m,b⟩ bv,none⟩).next=H.next+1:=zaf _ _;generalize hq:H.next=q at *;generalize H.new _=H0 at *;unfold nC at g0;dsimp only at g0;simp(disch:=omega)only[↓RD,RZ,g0];refine zad (of_ok k) ?_;rintro _ H1 ⟨rfl,s1⟩;obtain⟨a0,a1,a2,a3,a4,a5,a6,o,eb⟩:=bnd_form k;have eg:zfb ⟨k,r,s,e,n,m,b⟩=(o&&((decide (0≤r)&&decide (r≤a0))&&((decide (0≤s)&&decide (s≤a1))&&((decide (0≤e)&&decide (e≤a2))&&((decide (0≤n)&&decide (n≤a3))&&((decide (0≤m)&&decide (m≤a4))&&(!decide ((b.length:Int)<a5)&&(!decide (a6<(b.length:Int))&&(if k=18 then decide (1≤n) else true))))))))):=by
  unfold zfb;dsimp only;rw[eb];rfl
 have eb1:(bnd k).1.map (V.int .i64)=[.int .i64 a0,.int .i64 a1,.int .i64 a2,.int .i64 a3,.int .i64 a4,.int .i64 a5,.int .i64 a6]:=by rw[eb]; rfl
 have eb2:(bnd k).2=o:=by rw[eb]
 rw[eb1,eb2,eg];refine zat rfl ?_;refine zat rfl ?_;refine zbi rfl rfl λq3 H3 e3 g3 s3 n3=>?_;have s13:=s1.trans s3;have n1:=s1.next;have g03:=(s13.same q (by omega)).trans g0;have bl:=(hb.ext (s0.trans s13)).vlen;have w1:=@zaQ _ _ _ _ (@zgq H3 r a0);have w2:=@zaQ _ _ _ _ (@zgq H3 s a1);have w3:=@zaQ _ _ _ _ (@zgq H3 e a2);have w4:=@zaQ _ _ _ _ (@zgq H3 n a3);have w5:=@zaQ _ _ _ _ (@zgq H3 m a4);have gr:=s0.trans s13;generalize (decide (0≤r)&&decide (r≤a0))=b1 at *;generalize (decide (0≤s)&&decide (s≤a1))=b2 at *;generalize (decide (0≤e)&&decide (e≤a2))=b3 at *;generalize (decide (0≤n)&&decide (n≤a3))=b4 at *;generalize (decide (0≤m)&&decide (m≤a4))=b5 at *;cases o with
 | false=>simp(disch:=omega)only[↓RD,RZ,g3,g03]; exact⟨rfl,gr⟩
 | true =>
 cases b1 with
 | false=>simp(disch:=omega)only[↓RD,RZ,g3,g03,w1]; exact⟨rfl,gr⟩
 | true =>
 cases b2 with
 | false=>simp(disch:=omega)only[↓RD,RZ,g3,g03,w1,w2]; exact⟨rfl,gr⟩
 | true =>
 cases b3 with
 | false=>simp(disch:=omega)only[↓RD,RZ,g3,g03,w1,w2,w3]; exact⟨rfl,gr⟩
 | true =>
 cases b4 with
 | false=>simp(disch:=omega)only[↓RD,RZ,g3,g03,w1,w2,w3,w4]; exact⟨rfl,gr⟩
 | true =>
 cases b5 with
 | false=>simp(disch:=omega)only[↓RD,RZ,g3,g03,w1,w2,w3,w4,w5]; exact⟨rfl,gr⟩
 | true =>
 cases h6:decide ((b.length:Int)<a5) with
 | true=>simp(disch:=omega)only[↓RD,RZ,g3,g03,w1,w2,w3,w4,w5,bl,h6]; exact⟨rfl,gr⟩
 | false =>
 cases h7:decide (a6<(b.length:Int)) with
 | true=>simp(disch:=omega)only[↓RD,RZ,g3,g03,w1,w2,w3,w4,w5,bl,h6,h7]; exact⟨rfl,gr⟩
 | false =>
 have f1:(k==17)=false:=by simpa using hk1
 have f2:(k==19)=false:=by simpa using hk2
 have f3:(k==20)=false:=by simpa using hk3
 by_cases h18:k=18
 ·have f4:(k==18)=true:=by simpa using h18
  rw[if_pos h18];simp(disch:=omega)only[↓RD,RZ,g3,g03,w1,w2,w3,w4,w5,bl,h6,h7,f1,f4];exact⟨by simp,gr⟩
 ·have f4:(k==18)=false:=by simpa using h18
  rw[if_neg h18];simp(disch:=omega)only[↓RD,RZ,g3,g03,w1,w2,w3,w4,w5,bl,h6,h7,f1,f2,f3,f4];exact⟨rfl,gr⟩
end Go.Ax.SU
/- Dk3 -/
namespace Go.Ax.SU
open Go.Ax
theorem Apf.low{ty e lo lo' n:Nat}{H:Heap}{v:V}{cells:List V}(h:Apf ty e lo H v cells n)(hl:lo'≤lo):Apf ty e lo' H v cells n:=by
 cases h with
 | app h =>
  cases h with
  | opn h ho=>exact .app (.opn h λi hi=>⟨Nat.le_trans hl (ho i hi).1,(ho i hi).2⟩)
  | lit h h0 h1=>exact .app (.lit h (Nat.le_trans hl h0) h1)
 | full h hl' h0 h1=>exact .full h hl' (Nat.le_trans hl h0) h1
theorem ite_P{α:Type}{c:Prop}[Decidable c]{a b:α}{P:α→Prop}(h1:c→P a)(h2:¬c→P b):P (if c then a else b):=by
 by_cases h:c
 ·rw[if_pos h]; exact h1 h
 ·rw[if_neg h]; exact h2 h
theorem bnd_le(k:Int):(bnd k).1.getD 0 0≤3∧(bnd k).1.getD 1 0≤7∧(bnd k).1.getD 2 0≤65535∧(bnd k).1.getD 3 0≤65535∧(bnd k).1.getD 4 0≤65535∧(bnd k).1.getD 6 0≤200∧((bnd k).2=true→1≤k∧k≤24):=by
 unfold bnd
 repeat (refine ite_P (P:=λp:List Int×Bool=>p.1.getD 0 0≤3∧p.1.getD 1 0≤7∧p.1.getD 2 0≤65535∧p.1.getD 3 0≤65535∧p.1.getD 4 0≤65535∧p.1.getD 6 0≤200∧(p.2=true→1≤k∧k≤24)) (λh=>⟨by decide,by decide,by decide,by decide,by decide,by decide,λ_=>by omega⟩) (λh=>?_))
 exact⟨by decide,by decide,by decide,by decide,by decide,by decide,λh=>by cases h⟩
theorem zkm{x:Nt}(h:zfb x=true):(1≤x.k∧x.k≤24)∧(0≤x.r∧x.r≤3)∧(0≤x.s∧x.s≤7)∧(0≤x.e∧x.e≤65535)∧(0≤x.n∧x.n≤65535)∧(0≤x.m∧x.m≤65535)∧x.b.length≤200:=by
 obtain⟨h0,h1,h2,h3,h4,h6,h7⟩:=bnd_le x.k;simp only[zfb,Bool.and_eq_true,decide_eq_true_eq,Bool.not_eq_true',decide_eq_false_iff_not]at h;obtain⟨g0,g1,g2,g3,g4,g5,g6,g7,-⟩:=h;refine⟨h7 g0,⟨g1.1,by omega⟩,⟨g2.1,by omega⟩,⟨g3.1,by omega⟩,⟨g4.1,by omega⟩,⟨g5.1,by omega⟩,by omega⟩
def by2(y:Nat):List Nat:=[y/256%256,y%256]
def zaN(x:Nt):List Nat:=[x.k.toNat,x.r.toNat,x.s.toNat]++[x.e.toNat,x.n.toNat,x.m.toNat,x.b.length].flatMap by2++x.b
theorem zog{lo:Nat}{H:Heap}{x:Nt}{bv:V}(g:Bool)(hb:By lo H bv x.b) (hgood:∀H,By lo H bv x.b→Ok (sem T zc8 [.agg (nC x bv)]) H λr H'=>r = .bool g∧Grow H H')
  (hle:g=true→(1≤x.k∧x.k≤24)∧(0≤x.r∧x.r≤3)∧(0≤x.s∧x.s≤7)∧(0≤x.e∧x.e≤65535)∧(0≤x.n∧x.n≤65535)∧(0≤x.m∧x.m≤65535)∧x.b.length≤200):Ok (sem T zea [.agg (nC x bv)]) H λr H'=>Grow H H'∧(g=false∧r = .tup [.nils,.int .i64 1]∨g=true∧∃v,r = .tup [v,.int .i64 0]∧Ab H.next H' v (zaN x)):=by
 refine zoO ?_;unfold zk6 uL uS uFM uO uc ub ug;obtain⟨k,r,s,e,n,m,b⟩:=x;dsimp only at hle hb hgood;have vc:=hb.cells1;have vo:=hb.okc;refine zao (zaK (by simp[nC,V.okc,vo]) ?_);rw[zam];have s0:=Grow.new H ⟨zae,nC ⟨k,r,s,e,n,m,b⟩ bv,none⟩;have g0:(H.new ⟨zae,nC ⟨k,r,s,e,n,m,b⟩ bv,none⟩).get H.next=some ⟨zae,nC ⟨k,r,s,e,n,m,b⟩ bv,none⟩:=zac _ _;have n0:(H.new ⟨zae,nC ⟨k,r,s,e,n,m,b⟩ bv,none⟩).next=H.next+1:=zaf _ _;generalize hq:H.next=q at *;generalize H.new _=H0 at *;have l0:ldc (some 7) (nC ⟨k,r,s,e,n,m,b⟩ bv) 0=some (.agg (nC ⟨k,r,s,e,n,m,b⟩ bv)):=rfl;simp(disch:=omega)only[↓RD,RZ,eq_self,seval,g0,l0];refine zad (hgood H0 (hb.ext s0)) ?_;rintro _ H1 ⟨rfl,s1⟩;have n1:=s1.next;have s01:=s0.trans s1;have g1:=(s1.same q (by omega)).trans g0;cases hg:g with
 | false=>simp(disch:=omega)only[↓RD,RZ,eq_self,seval]; exact⟨s01,.inl trivial⟩
 | true =>
 obtain⟨h1,h2,h3,h4,h5,h6,h7⟩:=hle hg;obtain⟨k,rfl⟩:∃y:Nat,k=(y:Nat):=⟨k.toNat,by omega⟩;obtain⟨r,rfl⟩:∃y:Nat,r=(y:Nat):=⟨r.toNat,by omega⟩;obtain⟨s,rfl⟩:∃y:Nat,s=(y:Nat):=⟨s.toNat,by omega⟩;obtain⟨e,rfl⟩:∃y:Nat,e=(y:Nat):=⟨e.toNat,by omega⟩;obtain⟨n,rfl⟩:∃y:Nat,n=(y:Nat):=⟨n.toNat,by omega⟩;obtain⟨m,rfl⟩:∃y:Nat,m=(y:Nat):=⟨m.toNat,by omega⟩;unfold nC at g1;dsimp only at g1;have w8:∀y:Nat,y<256→IntKind.u8.wrap ((y:Nat):Int)=((y:Nat):Int):=λy hy=>by rw[wrap_u8]; omega
 have wk:=w8 k (by omega);have wr:=w8 r (by omega);have ws:=w8 s (by omega);have bl:=(hb.ext s01).vlen;simp(disch:=omega)only[↓RD,RZ,eq_self,seval,g1,wk,wr,ws,bl];have sA:=Grow.new H1 ⟨zak,[.int .u8 (k:Nat),.int .u8 (r:Nat),.int .u8 (s:Nat)],none⟩;have gA:(H1.new ⟨zak,[.int .u8 (k:Nat),.int .u8 (r:Nat),.int .u8 (s:Nat)],none⟩).get H1.next = _:=zac _ _;have nA:(H1.new ⟨zak,[.int .u8 (k:Nat),.int .u8 (r:Nat),.int .u8 (s:Nat)],none⟩).next=H1.next+1:=zaf _ _;generalize H1.new _=H2 at *;have sB:=Grow.new H2 ⟨zfn,[.int .i64 (e:Nat),.int .i64 (n:Nat),.int .i64 (m:Nat),.int .i64 (b.length:Nat)],none⟩;have gB:(H2.new ⟨zfn,[.int .i64 (e:Nat),.int .i64 (n:Nat),.int .i64 (m:Nat),.int .i64 (b.length:Nat)],none⟩).get H2.next = _:=zac _ _;have nB:(H2.new ⟨zfn,[.int .i64 (e:Nat),.int .i64 (n:Nat),.int .i64 (m:Nat),.int .i64 (b.length:Nat)],none⟩).next=H2.next+1:=zaf _ _;rw[nA]at gB;generalize H2.new _=H3 at *;have gA3:=(sB.same H1.next (by omega)).trans gA;have s13:=sA.trans sB;have g3:=(s13.same q (by omega)).trans g1;generalize hqB:H1.next=p at *;obtain⟨F,hF⟩:∃F:Nat→List Nat,∀i,F i=([e,n,m,b.length].take i).flatMap by2:=⟨_,λ_=>rfl⟩;have hF0:F 0=[]:=hF 0;have hF4:F 4=[e,n,m,b.length].flatMap by2:=hF 4;have hints:∀i,i<4→∃y,y<65536∧([.int .i64 (e:Nat),.int .i64 (n:Nat),.int .i64 (m:Nat),.int .i64 (b.length:Nat)]:List V)[i]?=some (.int .i64 (y:Nat))∧F (i+1)=F i++by2 y:=by
  intro i hi;rw[hF,hF];have:i=0∨i=1∨i=2∨i=3:=by omega
  rcases this with rfl|rfl|rfl|rfl
  ·exact⟨e,by omega,rfl,rfl⟩
  ·exact⟨n,by omega,rfl,rfl⟩
  ·exact⟨m,by omega,rfl,rfl⟩
  ·exact⟨b.length,by omega,rfl,rfl⟩
 have hfl:∀i,(F i).length≤8:=by
  intro i;rw[hF];have h1:(([e,n,m,b.length].take i).flatMap by2).length=2*([e,n,m,b.length].take i).length:=by
   induction ([e,n,m,b.length].take i) with
   | nil=>rfl
   | cons a l ih=>rw[List.flatMap_cons,List.length_append,ih,List.length_cons]; simp[by2]; omega
  rw[h1,List.length_take];simp only[List.length_cons,List.length_nil];omega
 refine zaw (Q:=λr' H'=>∃w,r' = .ex 0 [w]∧Ab p H' w ([k,r,s]++F 4)∧Bel p H3 H') ?_ ?_
 ·refine za3 (λi L H'=>∃w,L=[w,.int .i64 (i:Nat)]∧Ab p H' w ([k,r,s]++F i)∧Bel p H3 H'∧H'.get (p+1)=H3.get (p+1)∧w.pid≠some (p+1)) 4 ?_ ?_ ?_
  ·exact⟨_,rfl,by rw[hF0]; exact .full gA3 rfl (Nat.le_refl _) (by omega),Bel.refl _ _,rfl,by simp[V.pid]⟩
  ·rintro i _ H4 hi ⟨w,rfl,ha,hbel,hsame,hpid⟩;obtain⟨y,hy,hc,hf⟩:=hints i hi;have n4:=hbel.next;have g4:=hsame.trans gB;have d:decide (((i:Nat):Int)<((4:Nat):Int))=true:=decide_eq_true (by omega);have d':decide (i<4)=true:=decide_eq_true hi;have hia:∀{kk:IntKind},Ax.iaddr none 1 (.sl (p+1) 0 4 (.fix 4)) (.int kk ((i:Nat):Int))=some (.ptr (p+1) i):=λ{kk}=>by rw[zfW (by omega) (by omega),Int.toNat_natCast,Nat.mul_one,Nat.zero_add]
   have e3:shr y 8=y/256:=by rw[zhI,Nat.shiftRight_eq_div_pow]
   have w1:IntKind.u8.wrap ((y/256:Nat):Int)=((y/256%256:Nat):Int):=by rw[wrap_u8]; rfl
   have w2:IntKind.u8.wrap ((y:Nat):Int)=((y%256:Nat):Int):=by rw[wrap_u8]; rfl
   have hli:=hfl i;unfold zgo uL uB uIM uc ub uq ug;simp(disch:=omega)only[↓RD,RZ,eq_self,seval,d,d',hia,g4,hc,e3,w1,w2];have hkeep:=Apf.keep ha ((Grow.new H4 ⟨zak,[.int .u8 (y/256%256:Nat),.int .u8 (y%256:Nat)],none⟩).keep _);refine okb_ab' (m:=by2 y) hkeep (by rw[zaf]; omega) (zbS rfl) (by simp only[List.length_append,List.length_cons,List.length_nil,by2]; omega) λw2 H5 h2 hb2 st2=>?_;have n5:=hb2.next;rw[zaf]at n5;simp(disch:=omega)only[↓RD,RZ,eq_self,seval];refine⟨w2,rfl,by show Ab p H5 w2 ([k,r,s]++F (i+1)); rw[hf,←List.append_assoc]; exact h2,hbel.trans (((Grow.new _ _).bel (by omega)).trans hb2),?_,λe=>?_⟩
   ·rw[st2.same (p+1) (by rw[zaf]; omega) (by simp[zb7,hpid]),zaE _ _ (by omega)];exact hsame
   ·rcases st2.own (p+1) (by simp[e]) with h|h
    ·exact hpid (by simpa [zb7]using h)
    ·rw[zaf]at h; omega
  ·rintro _ H4 ⟨w,rfl,ha,hbel,hsame,hpid⟩;unfold zgo uL uB uIM uc ub uq ug;simp(disch:=omega)only[↓RD,RZ,eq_self,seval];exact⟨w,rfl,ha,hbel⟩
 ·rintro _ H4 ⟨w,rfl,ha,hbel⟩;have n4:=hbel.next;have s04:Grow H H4:=(s01.trans s13).bel' (by omega) hbel;have g4:=(hbel.same q (by omega)).trans g3;simp(disch:=omega)only[↓RD,RZ,eq_self,seval,g4];refine okb_ab ha (by omega) (hb.ext s04).ac (by have:=hfl 4; simp only[List.length_append,List.length_cons,List.length_nil]; omega) λw2 H5 h2 hb2=>?_;simp(disch:=omega)only[↓RD,RZ,eq_self,seval];refine⟨s04.bel' (by omega) hb2,.inr ⟨w2,rfl,?_⟩⟩;rw[hF4]at h2;exact Apf.low h2 (by omega)
theorem zun{lo:Nat}{H:Heap}{x:Nt}{bv:V}(hb:By lo H bv x.b)(hk:Pl3 x):Ok (sem T zea [.agg (nC x bv)]) H λr H'=>Grow H H'∧(zfb x=false∧r = .tup [.nils,.int .i64 1]∨zfb x=true∧∃v,r = .tup [v,.int .i64 0]∧Ab H.next H' v (zaN x)) :=
 zog (zfb x) hb (λH hb=>zmv hb hk) zkm
end Go.Ax.SU
/- Dk4 -/
namespace Go.Ax.SU
open Go.Ax
def twoB(b:List Nat)(i:Nat):Nat:=b.getD i 0*256+b.getD (i+1) 0
def zN:Nt:=⟨0,0,0,0,0,0,[]⟩
def rawN(b:List Nat):Nt:=⟨(b.getD 0 0:Nat),(b.getD 1 0:Nat),(b.getD 2 0:Nat),(twoB b 3:Nat),(twoB b 5:Nat),(twoB b 7:Nat),b.drop 11⟩
def zeF(b:List Nat):Nat :=
 if b.length<11 then 3 else if 200<twoB b 9 then 4 else if b.length-11<twoB b 9 then 3 else if twoB b 9<b.length-11 then 2 else if zfb (rawN b)=false then 2 else 0
theorem twoB_lt{b:List Nat}(h:Ok8 b)(i:Nat):twoB b i<65536:=by
 have h1:=h.getD i;have h2:=h.getD (i+1);unfold twoB;omega
theorem two8{x y:Nat}(hx:x<256)(hy:y<256):x*256 ||| y=x*256+y:=or256 x y hy
theorem znl{x:Nat}(h:x<256):IntKind.i64.wrap ((x:Nat):Int)=((x:Nat):Int):=wrap_i64 (by omega) (by omega)
theorem zlz{lo:Nat}{H:Heap}{q:Nat}{bv:V}{b:List Nat}{i:Nat} (hq:H.get q=some ⟨zen,[bv],none⟩) (hb:By lo H bv b) (b8:Ok8 b) (hi:i+1<b.length) (hl:b.length≤1000000) :
  Ok (sem T zbI [.int .i64 (i:Nat),.ptr q 0]) H λr H'=>r = .int .i64 (twoB b i:Nat)∧H'=H:=by
 refine zme ?_;unfold ziG uL uM uB uIM uc uq;obtain⟨p0,hp0,hl0,-⟩:=by_at hb (i:=(i:Nat)) (by omega) (by omega);obtain⟨p1,hp1,hl1,-⟩:=by_at hb (i:=((i+1:Nat):Int)) (by omega) (by omega);rw[Int.toNat_natCast]at hl0 hl1;have h0:=b8.getD i;have h1:=b8.getD (i+1);have c0:=znl h0;have c1:=znl h1;have w:IntKind.i64.wrap (((i:Nat):Int)+1)=((i+1:Nat):Int):=by rw[wrap_i64 (by omega) (by omega)]; omega
 have sh:Ax.bin .shl (.int .i64 (b.getD i 0:Nat)) (.int .u64 8)=some (.int .i64 (b.getD i 0*256:Nat)):=by
  rw[zi7 (by decide)];have:((b.getD i 0:Nat):Int)*2 ^ min (8:Int).toNat IntKind.i64.bits=((b.getD i 0*256:Nat):Int):=by
   show((b.getD i 0:Nat):Int)*256 = _;omega
  rw[this,wrap_i64 (by omega) (by omega)]
 have ho:=two8 h0 h1;unfold twoB;generalize b.getD i 0=x at *;generalize b.getD (i+1) 0=y at *;have ho':Ax.bin .or (.int .i64 (x*256:Nat)) (.int .i64 (y:Nat))=some (.int .i64 (x*256+y:Nat)):=by
  rw[zpV (by omega) (by omega) (by omega) (by omega),Int.toNat_natCast,Int.toNat_natCast,ho]
 simp(disch:=omega)only[↓RD,RZ,hq,hp0,hl0,hp1,hl1,c0,c1,w,sh,ho']
theorem zgM{lo:Nat}{H:Heap}{bv:V}{b:List Nat}(hb:By lo H bv b)(b8:Ok8 b)(hl:b.length≤1000000) (hk:Pl3 (rawN b)) :
  Ok (sem T zfj [bv]) H λr H'=>Grow H H'∧(zeF b≠0∧r = .tup [.agg (nC zN .nils),.int .i64 (zeF b:Nat)]∨zeF b=0∧∃v,r = .tup [.agg (nC (rawN b) v),.int .i64 0]∧By H.next H' v (b.drop 11)):=by
 refine zoN ?_;unfold zk5 uL uM uS uT uF uB uI uO uU uc;have vc:=hb.cells1;have vo:=hb.okc;refine zao (zaK vo ?_);rw[vc];have s0:=Grow.new H ⟨zen,[bv],none⟩;have g0:(H.new ⟨zen,[bv],none⟩).get H.next=some ⟨zen,[bv],none⟩:=zac _ _;have n0:(H.new ⟨zen,[bv],none⟩).next=H.next+1:=zaf _ _;generalize hq:H.next=q at *;generalize H.new _=H0 at *;refine zao (zaK rfl ?_);rw[zam];have s1:=Grow.new H0 ⟨zae,nC zN .nils,none⟩;have p1:(H0.new ⟨zae,nC zN .nils,none⟩).get H0.next=some ⟨zae,nC zN .nils,none⟩:=zac _ _;have n1:(H0.new ⟨zae,nC zN .nils,none⟩).next=H0.next+1:=zaf _ _;have g1:=(s1.same q (by omega)).trans g0;show Ok _ (H0.new ⟨zae,nC zN .nils,none⟩) _;rw[n0]at *;generalize H0.new _=H1 at *;have hb1:=hb.ext (s0.trans s1);have bl:=hb1.vlen;have s01:=s0.trans s1;have fin:∀(H2:Heap) (cs:List V),Grow H H2→Grow H (H2.set (q+1) (some ⟨zae,cs,none⟩)):=λH2 cs h=>h.set (by omega) _;by_cases hlen:b.length<11
 ·have e:zeF b=3:=by unfold zeF; rw[if_pos hlen]
  have d:decide (((b.length:Nat):Int)<11)=true:=decide_eq_true (by omega);have d':decide (b.length<11)=true:=decide_eq_true hlen;rw[e];unfold nC zN at p1;simp(maxSteps:=1000000) (disch:=first|omega|(simp only[RY]<;>omega)|decide)only[↓RD,RZ,eq_self,Int.reduceToNat,Int.reduceAdd,Int.reduceSub,Int.reduceMul,Nat.reduceAdd,Nat.reduceSub,Nat.reduceMul,Nat.reduceDiv,Nat.reduceMod,Nat.reduceBEq,Nat.reduceLeDiff,g1,bl,d,d',p1];exact⟨fin _ _ s01,.inl ⟨by decide,rfl⟩⟩
 have d:decide (((b.length:Nat):Int)<11)=false:=decide_eq_false (by omega);have d':decide (b.length<11)=false:=decide_eq_false hlen;obtain⟨p0,hp0,hl0,-⟩:=by_at hb1 (i:=0) (by omega) (by omega);obtain⟨p1',hp1,hl1,-⟩:=by_at hb1 (i:=1) (by omega) (by omega);obtain⟨p2,hp2,hl2,-⟩:=by_at hb1 (i:=2) (by omega) (by omega);have c0:=znl (b8.getD 0);have c1:=znl (b8.getD 1);have c2:=znl (b8.getD 2);have t3:=@zaQ _ _ _ _ (show Ok (callv (sem T) (.fn zbI [.ptr q 0]) [.int .i64 3]) H1 _ from zlz (i:=3) g1 hb1 b8 (by omega) hl);have t5:=@zaQ _ _ _ _ (show Ok (callv (sem T) (.fn zbI [.ptr q 0]) [.int .i64 5]) H1 _ from zlz (i:=5) g1 hb1 b8 (by omega) hl);have t7:=@zaQ _ _ _ _ (show Ok (callv (sem T) (.fn zbI [.ptr q 0]) [.int .i64 7]) H1 _ from zlz (i:=7) g1 hb1 b8 (by omega) hl);simp(maxSteps:=1000000) (disch:=first|omega|(simp only[RY]<;>omega)|decide)only[↓RD,RZ,eq_self,Int.reduceToNat,Int.reduceAdd,Int.reduceSub,Int.reduceMul,Nat.reduceAdd,Nat.reduceSub,Nat.reduceMul,Nat.reduceDiv,Nat.reduceMod,Nat.reduceBEq,Nat.reduceLeDiff,g1,bl,d,d',hp0,hp1,hp2,hl0,hl1,hl2,c0,c1,c2,t3,t5,t7];have h8:=b8.getD;have s2:Grow H1 ((H1.new ⟨zae,[.int .i64 0,.int .i64 0,.int .i64 0,.int .i64 0,.int .i64 0,.int .i64 0,.nils],none⟩).set H1.next (some ⟨zae,nC { rawN b with b:=[] } .nils,none⟩)):=(Grow.new _ _).set (Nat.le_refl _) _;have p3:((H1.new ⟨zae,[.int .i64 0,.int .i64 0,.int .i64 0,.int .i64 0,.int .i64 0,.int .i64 0,.nils],none⟩).set H1.next (some ⟨zae,nC { rawN b with b:=[] } .nils,none⟩)).get H1.next = _:=zan _ _ _;have n2:((H1.new ⟨zae,[.int .i64 0,.int .i64 0,.int .i64 0,.int .i64 0,.int .i64 0,.int .i64 0,.nils],none⟩).set H1.next (some ⟨zae,nC { rawN b with b:=[] } .nils,none⟩)).next=H1.next+1:=rfl;have hn1:H1.next=q+2:=by omega
 rw[hn1]at s2 p3 n2;have en1:q+1+1=q+2:=rfl;rw[hn1];unfold nC rawN at s2 p3 n2;dsimp only at s2 p3 n2;generalize Heap.set (Heap.new H1 _) _ _=H2 at *;have g2:=(s2.same q (by omega)).trans g1;have p2:=(s2.same (q+1) (by omega)).trans p1;have hb2:=hb1.ext s2;have s02:=s01.trans s2;obtain⟨rv,-,-,hs,hrv,-⟩:=by_slice hb2 (x:=11) (y:=(b.length:Nat)) (by omega) (by omega) (by omega);replace hs:∀{kk:IntKind},zaU .sl 1 bv (some (.int kk 11)) none none=some rv:=hs rfl;have hr2:By lo H2 rv (b.drop 11):=by
  have e:((b.drop (11:Int).toNat).take (((b.length:Nat):Int).toNat-(11:Int).toNat))=b.drop 11:=List.take_of_length_le (by rw[List.length_drop,Int.toNat_natCast]; exact Nat.le_refl _);rw[e]at hrv;exact hrv
 have rl:=hr2.vlen;rw[List.length_drop]at rl;have t9:=@zaQ _ _ _ _ (show Ok (callv (sem T) (.fn zbI [.ptr q 0]) [.int .i64 9]) H2 _ from zlz (i:=9) g2 hb2 b8 (by omega) hl);have h9:=twoB_lt b8 9;unfold nC zN at p2;dsimp only at p2;have eE:zeF b=if 200<twoB b 9 then 4 else if b.length-11<twoB b 9 then 3 else if twoB b 9<b.length-11 then 2 else if zfb (rawN b)=false then 2 else 0:=by
  unfold zeF;rw[if_neg hlen]
 simp(maxSteps:=1000000) (disch:=first|omega|(simp only[RY]<;>omega)|decide)only[↓RD,RZ,eq_self,Int.reduceToNat,Int.reduceAdd,Int.reduceSub,Int.reduceMul,Nat.reduceAdd,Nat.reduceSub,Nat.reduceMul,Nat.reduceDiv,Nat.reduceMod,Nat.reduceBEq,Nat.reduceLeDiff,hs,t9];by_cases k1:200<twoB b 9
 ·have d1:decide ((200:Int)<((twoB b 9:Nat):Int))=true:=decide_eq_true (by omega);have d1':decide (200<twoB b 9)=true:=decide_eq_true k1;rw[if_pos k1]at eE;rw[eE];simp(maxSteps:=1000000) (disch:=first|omega|(simp only[RY]<;>omega)|decide)only[↓RD,RZ,eq_self,Int.reduceToNat,Int.reduceAdd,Int.reduceSub,Int.reduceMul,Nat.reduceAdd,Nat.reduceSub,Nat.reduceMul,Nat.reduceDiv,Nat.reduceMod,Nat.reduceBEq,Nat.reduceLeDiff,d1,d1',p2];exact⟨fin _ _ s02,.inl ⟨by decide,rfl⟩⟩
 have d1:decide ((200:Int)<((twoB b 9:Nat):Int))=false:=decide_eq_false (by omega);have d1':decide (200<twoB b 9)=false:=decide_eq_false k1;rw[if_neg k1]at eE;by_cases k2:b.length-11<twoB b 9
 ·have d2:decide (((b.length-11:Nat):Int)<((twoB b 9:Nat):Int))=true:=decide_eq_true (by omega);have d2':decide (b.length-11<twoB b 9)=true:=decide_eq_true k2;rw[if_pos k2]at eE;rw[eE];simp(maxSteps:=1000000) (disch:=first|omega|(simp only[RY]<;>omega)|decide)only[↓RD,RZ,eq_self,Int.reduceToNat,Int.reduceAdd,Int.reduceSub,Int.reduceMul,Nat.reduceAdd,Nat.reduceSub,Nat.reduceMul,Nat.reduceDiv,Nat.reduceMod,Nat.reduceBEq,Nat.reduceLeDiff,d1,d1',rl,d2,d2',p2];exact⟨fin _ _ s02,.inl ⟨by decide,rfl⟩⟩
 have d2:decide (((b.length-11:Nat):Int)<((twoB b 9:Nat):Int))=false:=decide_eq_false (by omega);have d2':decide (b.length-11<twoB b 9)=false:=decide_eq_false k2;rw[if_neg k2]at eE;by_cases k3:twoB b 9<b.length-11
 ·have d3:decide (((twoB b 9:Nat):Int)<((b.length-11:Nat):Int))=true:=decide_eq_true (by omega);have d3':decide (twoB b 9<b.length-11)=true:=decide_eq_true k3;rw[if_pos k3]at eE;rw[eE];simp(maxSteps:=1000000) (disch:=first|omega|(simp only[RY]<;>omega)|decide)only[↓RD,RZ,eq_self,Int.reduceToNat,Int.reduceAdd,Int.reduceSub,Int.reduceMul,Nat.reduceAdd,Nat.reduceSub,Nat.reduceMul,Nat.reduceDiv,Nat.reduceMod,Nat.reduceBEq,Nat.reduceLeDiff,d1,d1',rl,d2,d2',d3,d3',p2];exact⟨fin _ _ s02,.inl ⟨by decide,rfl⟩⟩
 have d3:decide (((twoB b 9:Nat):Int)<((b.length-11:Nat):Int))=false:=decide_eq_false (by omega);have d3':decide (twoB b 9<b.length-11)=false:=decide_eq_false k3;rw[if_neg k3]at eE;simp(maxSteps:=1000000) (disch:=first|omega|(simp only[RY]<;>omega)|decide)only[↓RD,RZ,eq_self,Int.reduceToNat,Int.reduceAdd,Int.reduceSub,Int.reduceMul,Nat.reduceAdd,Nat.reduceSub,Nat.reduceMul,Nat.reduceDiv,Nat.reduceMod,Nat.reduceBEq,Nat.reduceLeDiff,d1,d1',rl,d2,d2',d3,d3'];refine zad (zsx hr2 (by rw[List.length_drop]; omega)) ?_;rintro v H3 ⟨hv,s3⟩;have n3:=s3.next;have p33:=(s3.same (q+2) (by omega)).trans p3;have p23:=(s3.same (q+1) (by omega)).trans p2;have vc3:=hv.by.cells1;have vo3:=hv.by.okc;simp(maxSteps:=1000000) (disch:=first|omega|(simp only[RY]<;>omega)|decide)only[↓RD,RZ,eq_self,Int.reduceToNat,Int.reduceAdd,Int.reduceSub,Int.reduceMul,Nat.reduceAdd,Nat.reduceSub,Nat.reduceMul,Nat.reduceDiv,Nat.reduceMod,Nat.reduceBEq,Nat.reduceLeDiff,p33,vc3,vo3];rw[zcG];have n2':H2.next=q+3:=by omega
 have a4:AtS [q+2] H3 (H3.set (q+2) (some ⟨zae,nC (rawN b) v,none⟩)):=AtS.set _ (by simp) _;have s34:Grow H (H3.set (q+2) (some ⟨zae,nC (rawN b) v,none⟩)):=(s02.trans s3).set (by omega) _;have p34:(H3.set (q+2) (some ⟨zae,nC (rawN b) v,none⟩)).get (q+2) = _:=zan _ _ _;have p24:(H3.set (q+2) (some ⟨zae,nC (rawN b) v,none⟩)).get (q+1) = _:=(zap _ _ (by omega)).trans p23;have n4:(H3.set (q+2) (some ⟨zae,nC (rawN b) v,none⟩)).next=H3.next:=rfl;have hv4:=Lc.atS hv.by a4 λj hj h=>by
  have:=(hv.by.own j hj).1;simp only[List.mem_singleton]at h;omega
 show Ok _ (H3.set (q+2) (some ⟨zae,nC (rawN b) v,none⟩)) _;generalize Heap.set H3 _ _=H4 at *;refine zad (zmv (x:=rawN b) (bv:=v) hv4 hk) ?_;rintro _ H5 ⟨rfl,s5⟩;have p35:=(s5.same (q+2) (by omega)).trans p34;have p25:=(s5.same (q+1) (by omega)).trans p24;have s05:=s34.trans s5;have hv5:=hv4.ext s5;cases hg:zfb (rawN b) with
 | false =>
  rw[if_pos hg]at eE;rw[eE];simp(maxSteps:=1000000) (disch:=first|omega|(simp only[RY]<;>omega)|decide)only[↓RD,RZ,eq_self,Int.reduceToNat,Int.reduceAdd,Int.reduceSub,Int.reduceMul,Nat.reduceAdd,Nat.reduceSub,Nat.reduceMul,Nat.reduceDiv,Nat.reduceMod,Nat.reduceBEq,Nat.reduceLeDiff,p25];exact⟨fin _ _ s05,.inl ⟨by decide,rfl⟩⟩
 | true =>
  rw[if_neg (by rw[hg]; decide)]at eE;have l7:ldc (some 7) (nC (rawN b) v) 0=some (.agg (nC (rawN b) v)):=rfl;have hc7:(nC (rawN b) v).length=7:=rfl;have ok7:(V.agg (nC (rawN b) v)).okc=true:=by simp[nC,V.okc,vo3]
  have sp7:splice [.int .i64 0,.int .i64 0,.int .i64 0,.int .i64 0,.int .i64 0,.int .i64 0,.nils] 0 (nC (rawN b) v)=nC (rawN b) v:=rfl;rw[eE];simp(maxSteps:=1000000) (disch:=first|omega|(simp only[RY]<;>omega)|decide)only[↓RD,RZ,eq_self,Int.reduceToNat,Int.reduceAdd,Int.reduceSub,Int.reduceMul,Nat.reduceAdd,Nat.reduceSub,Nat.reduceMul,Nat.reduceDiv,Nat.reduceMod,Nat.reduceBEq,Nat.reduceLeDiff,p35,l7,p25,zam,hc7,ok7,sp7];refine⟨fin _ _ s05,.inr ⟨v,rfl,?_⟩⟩;exact(Lc.atS hv5 (AtS.set (S:=[q+1]) H5 (by simp) _) λj hj h=>by
   have:=(hv.by.own j hj).1;simp only[List.mem_singleton]at h;omega).low (by omega)
end Go.Ax.SU
/- Dk5 -/
namespace Go.Ax.SU
open Go.Ax
structure Tb where
 u:List Bool
 a:List Int
structure TbO (t:Tb):Prop where
 u8:t.u.length=8
 a8:t.a.length=8
def tC(t:Tb):List V:=t.u.map .bool++t.a.map (.int .i64)
def Tb.uG(t:Tb)(i:Nat):Bool:=t.u.getD i false
def Tb.aG(t:Tb)(i:Nat):Int:=t.a.getD i 0
def hitS(t:Tb)(a:Int)(i:Nat):Bool:=t.uG i&&decide (a=t.aG i)
def zec(t:Tb)(a:Int):Option Nat:=(List.range 8).find? (hitS t a)
def zfY(t:Tb)(i:Nat):Bool:=if t.uG i then decide (zec t (t.aG i)=some i)&&(decide (0≤t.aG i)&&decide (t.aG i≤63)) else decide (t.aG i=0)
def zdw(t:Tb):Bool:=(List.range 8).all (zfY t)
def fv(o:Option Nat):V:=match o with|some j=>.tup [.int .i64 (j:Nat),.bool true]|none=>.tup [.int .i64 0,.bool false]
theorem zce{t:Tb}(h:TbO t):(tC t).length=16:=by unfold tC; rw[List.length_append,List.length_map,List.length_map,h.u8,h.a8]
theorem tC_u{t:Tb}(h:TbO t){i:Nat}(hi:i<8):(tC t)[i]?=some (.bool (t.uG i)):=by
 unfold tC Tb.uG;rw[List.getElem?_append_left (by rw[List.length_map,h.u8]; exact hi),List.getElem?_map,List.getElem?_eq_getElem (by rw[h.u8]; exact hi),List.getD_eq_getElem?_getD,List.getElem?_eq_getElem (by rw[h.u8]; exact hi)];rfl
theorem tC_a{t:Tb}(h:TbO t):ldc (some 8) (tC t) 8=some (.agg (t.a.map (.int .i64))):=by
 have:=zce h;simp only[ldc];rw[if_pos (by omega)];unfold tC;rw[List.drop_left' (by rw[List.length_map,h.u8]),List.take_of_length_le (by rw[List.length_map,h.a8]; exact Nat.le_refl _)]
theorem zkH{t:Tb}(h:TbO t):ldc (some 16) (tC t) 0=some (.agg (tC t)):=by
 have:=zce h;simp only[ldc];rw[if_pos (by omega),List.drop_zero,List.take_of_length_le (by omega)]
theorem aG_at{t:Tb}(h:TbO t){i:Nat}(hi:i<8):Ax.index 8 1 none (.agg (t.a.map (.int .i64))) (.int .i64 (i:Nat))=some (.int .i64 (t.aG i)):=by
 simp only[Ax.index];rw[if_pos (by omega),Int.toNat_natCast,Nat.mul_one];simp only[ldc];rw[List.getElem?_map,List.getElem?_eq_getElem (by rw[h.a8]; exact hi)];unfold Tb.aG;rw[List.getD_eq_getElem?_getD,List.getElem?_eq_getElem (by rw[h.a8]; exact hi)];rfl
theorem ia8{q i:Nat}(hi:i<8){k:IntKind}:Ax.iaddr (some 8) 1 (.ptr q 0) (.int k (i:Nat))=some (.ptr q i):=by
 simp only[Ax.iaddr];rw[if_pos (by omega),Int.toNat_natCast,Nat.mul_one,Nat.zero_add]
theorem zlT(t:Tb):(V.agg (tC t)).okc=true:=by
 simp[V.okc,tC]
theorem zeo{p:Nat→Bool}{n i:Nat}(hi:i<n)(hp:p i=true)(hno:∀k,k<i→p k=false):(List.range n).find? p=some i:=by
 rw[List.find?_range_eq_some];exact⟨hp,by simpa using hi,λk hk=>by simpa using hno k hk⟩
theorem zgs{p:Nat→Bool}{n:Nat}(hno:∀k,k<n→p k=false):(List.range n).find? p=none:=by
 rw[List.find?_eq_none];intro x hx;rw[hno x (List.mem_range.1 hx)];decide
theorem zmG{H:Heap}{t:Tb}(ht:TbO t)(a:Int):Ok (sem T zdf [.agg (tC t),.int .i64 a]) H λr H'=>r=fv (zec t a)∧Grow H H':=by
 refine zoB ?_;unfold zkS uS uF uO uc;refine zao (zaK (zlT t) ?_);rw[zam];have s0:=Grow.new H ⟨zal,tC t,none⟩;have g0:(H.new ⟨zal,tC t,none⟩).get H.next=some ⟨zal,tC t,none⟩:=zac _ _;generalize hq:H.next=q at *;generalize H.new _=H0 at *;have hA:=tC_a ht;simp(disch:=omega)only[↓RD,RZ,g0,hA];refine zaw (Q:=λr H'=>H'=H0∧((r = .ex 0 []∧zec t a=none)∨∃i:Nat,r = .ret [.int .i64 (i:Nat),.bool true]∧zec t a=some i)) ?_ ?_
 ·refine za3 (λj L H'=>L=[.int .i64 (j:Nat)]∧H'=H0∧∀k,k<j→hitS t a k=false) 8 ?_ ?_ ?_
  ·exact⟨rfl,rfl,λk hk=>by omega⟩
  ·rintro j _ H1 hj ⟨rfl,rfl,hno⟩;have d1:decide (((j:Nat):Int)<8)=true:=decide_eq_true (by omega);have d1':decide (j<8)=true:=decide_eq_true hj;have hx:=aG_at ht hj;have hu:=tC_u ht hj;have hi:=λ{k}=>@ia8 q j hj k;have w1:IntKind.i64.wrap (((j:Nat):Int)+1)=((j+1:Nat):Int):=by rw[wrap_i64 (by omega) (by omega)]; omega
   have step:hitS t a j=false→∀k,k<j+1→hitS t a k=false:=λh k hk=>by
    by_cases hkk:k<j
    ·exact hno k hkk
    ·have:k=j:=by omega
     subst this;exact h
   unfold zgk uL uF uB uIM uG uH uc ug;cases hb:t.uG j with
   | false =>
    rw[hb]at hu;simp(disch:=omega)only[↓RD,RZ,d1,d1',hx,hi,g0,hu,w1];exact step (by unfold hitS; rw[hb]; rfl)
   | true =>
    rw[hb]at hu;by_cases ha:a=t.aG j
    ·have b2:(a==t.aG j)=true:=by simpa using ha
     simp(disch:=omega)only[↓RD,RZ,d1,d1',hx,hi,g0,hu,b2];exact .inr ⟨j,rfl,zeo hj (by unfold hitS; rw[hb,decide_eq_true ha]; rfl) hno⟩
    ·have b2:(a==t.aG j)=false:=by simpa using ha
     simp(disch:=omega)only[↓RD,RZ,d1,d1',hx,hi,g0,hu,b2,w1];exact step (by unfold hitS; rw[hb,decide_eq_false ha]; rfl)
  ·rintro _ H1 ⟨rfl,rfl,hno⟩;unfold zgk uL uF uB uIM uG uH uc ug;simp(disch:=omega)only[↓RD,RZ];exact .inl (zgs hno)
 ·rintro _ H1 ⟨rfl,⟨rfl,h⟩|⟨i,rfl,h⟩⟩
  ·rw[h]; simp(disch:=omega)only[↓RD,RZ]; exact⟨rfl,s0⟩
  ·rw[h]; simp(disch:=omega)only[↓RD,RZ]; exact⟨rfl,s0⟩
end Go.Ax.SU
/- Dk6 -/
namespace Go.Ax.SU
open Go.Ax
theorem zqN{H:Heap}(x:Int):Ok (sem T zd5 [.int .i64 x]) H λr H'=>r = .bool (decide (0≤x)&&decide (x≤63))∧H'=H:=by
 refine zoC ?_;unfold zkT uL uB uG uH uc;by_cases h:0≤x
 ·have d:decide ((0:Int)≤x)=true:=decide_eq_true h;simp(disch:=omega)only[↓RD,RZ,d,Bool.true_and]
 ·have d:decide ((0:Int)≤x)=false:=decide_eq_false h;simp(disch:=omega)only[↓RD,RZ,d,Bool.false_and]
theorem zid{H:Heap}(x:Int):Ok (sem T zeN [.int .i64 x]) H λr H'=>r = .bool (decide (0≤x)&&decide (x≤63))∧H'=H:=by
 refine zp4 ?_;unfold zmO uL uB uG uH uc;by_cases h:0≤x
 ·have d:decide ((0:Int)≤x)=true:=decide_eq_true h;simp(disch:=omega)only[↓RD,RZ,d,Bool.true_and]
 ·have d:decide ((0:Int)≤x)=false:=decide_eq_false h;simp(disch:=omega)only[↓RD,RZ,d,Bool.false_and]
theorem zv9{t:Tb}{i:Nat}(hi:i<8)(hu:t.uG i=true):∃j,zec t (t.aG i)=some j:=by
 cases h:zec t (t.aG i) with
 | some j=>exact⟨j,rfl⟩
 | none =>
  have:=(List.find?_eq_none.1 h) i (List.mem_range.2 hi);exact absurd (show hitS t (t.aG i) i=true by unfold hitS; rw[hu,decide_eq_true rfl]; rfl) this
theorem zhX{H:Heap}{t:Tb}(ht:TbO t):Ok (sem T zcf [.agg (tC t)]) H λr H'=>r = .bool (zdw t)∧Grow H H':=by
 refine zoF ?_;unfold zkW uS uF uO uc;refine zao (zaK (zlT t) ?_);rw[zam];have s0:=Grow.new H ⟨zal,tC t,none⟩;have g0:(H.new ⟨zal,tC t,none⟩).get H.next=some ⟨zal,tC t,none⟩:=zac _ _;have n0:(H.new ⟨zal,tC t,none⟩).next=H.next+1:=zaf _ _;generalize hq:H.next=q at *;generalize H.new _=H0 at *;have hA:=tC_a ht;have hAll:=zkH ht;simp(disch:=omega)only[↓RD,RZ,g0,hA];refine zaw (Q:=λr H'=>Grow H0 H'∧((r = .ex 0 []∧zdw t=true)∨(r = .ret [.bool false]∧zdw t=false))) ?_ ?_
 ·refine za3 (λj L H'=>L=[.int .i64 (j:Nat)]∧Grow H0 H'∧∀k,k<j→zfY t k=true) 8 ?_ ?_ ?_
  ·exact⟨rfl,Grow.refl _,λk hk=>by omega⟩
  ·rintro j _ H1 hj ⟨rfl,s1,hyes⟩;have n1:=s1.next;have g1:=(s1.same q (by omega)).trans g0;have d1:decide (((j:Nat):Int)<8)=true:=decide_eq_true (by omega);have d1':decide (j<8)=true:=decide_eq_true hj;have hx:=aG_at ht hj;have hu:=tC_u ht hj;have hi:=λ{k}=>@ia8 q j hj k;have w1:IntKind.i64.wrap (((j:Nat):Int)+1)=((j+1:Nat):Int):=by rw[wrap_i64 (by omega) (by omega)]; omega
   have step:zfY t j=true→∀k,k<j+1→zfY t k=true:=λh k hk=>by
    by_cases hkk:k<j
    ·exact hyes k hkk
    ·have:k=j:=by omega
     subst this;exact h
   have bad:zfY t j=false→zdw t=false:=λh=>by
    cases hh:zdw t with
    | false=>rfl
    | true =>
     have:=List.all_eq_true.1 hh j (List.mem_range.2 hj);rw[h]at this;cases this
   unfold zgm uL uS uF uE uB uIM uG uH uc ug;cases hb:t.uG j with
   | false =>
    rw[hb]at hu;by_cases ha:t.aG j=0
    ·have b2:(t.aG j==0)=true:=by simpa using ha
     simp(disch:=omega)only[↓RD,RZ,d1,d1',hx,hi,g1,hu,b2,Bool.not_true,w1];exact⟨s1,step (by unfold zfY; rw[hb]; simpa using ha)⟩
    ·have b2:(t.aG j==0)=false:=by simpa using ha
     simp(disch:=omega)only[↓RD,RZ,d1,d1',hx,hi,g1,hu,b2,Bool.not_false];exact⟨s1,.inr (bad (by unfold zfY; rw[hb]; simpa using ha))⟩
   | true =>
    rw[hb]at hu;simp(disch:=omega)only[↓RD,RZ,d1,d1',hx,hi,g1,hu,hAll];refine zad (zmG ht (t.aG j)) ?_;rintro _ H2 ⟨rfl,s2⟩;obtain⟨i,hfi⟩:=zv9 hj hb;have ea:zfY t j=(decide (i=j)&&(decide (0≤t.aG j)&&decide (t.aG j≤63))):=by
     unfold zfY;rw[if_pos hb,hfi];congr 1;exact decide_eq_decide.2 (by simp)
    have w2:=@zaQ _ _ _ _ (@zqN H2 (t.aG j));rw[hfi];unfold fv;by_cases hij:i=j
    ·have b3:(((i:Nat):Int)==((j:Nat):Int))=true:=by rw[hij]; simp
     have b3':(i==j)=true:=by simpa using hij
     rw[decide_eq_true hij,Bool.true_and]at ea;generalize (decide (0≤t.aG j)&&decide (t.aG j≤63))=w at *;cases w with
     | true =>
      simp(disch:=omega)only[↓RD,RZ,b3,b3',Bool.not_true,w2,w1];exact⟨s1.trans s2,step ea⟩
     | false =>
      simp(disch:=omega)only[↓RD,RZ,b3,b3',Bool.not_true,w2];exact⟨s1.trans s2,.inr (bad ea)⟩
    ·have b3:(((i:Nat):Int)==((j:Nat):Int))=false:=by simp; omega
     have b3':(i==j)=false:=by simpa using hij
     rw[decide_eq_false hij,Bool.false_and]at ea;simp(disch:=omega)only[↓RD,RZ,b3,b3',Bool.not_false];exact⟨s1.trans s2,.inr (bad ea)⟩
  ·rintro _ H1 ⟨rfl,s1,hyes⟩;unfold zgm uL uS uF uE uB uIM uG uH uc ug;simp(disch:=omega)only[↓RD,RZ];exact⟨s1,.inl (List.all_eq_true.2 λk hk=>hyes k (List.mem_range.1 hk))⟩
 ·rintro _ H1 ⟨s1,⟨rfl,h⟩|⟨rfl,h⟩⟩
  ·rw[h]; simp(disch:=omega)only[↓RD,RZ]; exact s0.trans s1
  ·rw[h]; simp(disch:=omega)only[↓RD,RZ]; exact s0.trans s1
theorem zqS{H:Heap}{t:Tb}(ht:TbO t)(a:Int):Ok (sem T zd6 [.agg (tC t),.int .i64 a]) H λr H'=>r=fv (if zdw t then zec t a else none)∧Grow H H':=by
 refine zoH ?_;unfold zkY uL uS uE uO uc;refine zao (zaK (zlT t) ?_);rw[zam];have s0:=Grow.new H ⟨zal,tC t,none⟩;have g0:(H.new ⟨zal,tC t,none⟩).get H.next=some ⟨zal,tC t,none⟩:=zac _ _;have n0:(H.new ⟨zal,tC t,none⟩).next=H.next+1:=zaf _ _;generalize hq:H.next=q at *;generalize H.new _=H0 at *;have hAll:=zkH ht;simp(disch:=omega)only[↓RD,RZ,g0,hAll];refine zad (zhX ht) ?_;rintro _ H1 ⟨rfl,s1⟩;have g1:=(s1.same q (by omega)).trans g0;cases hg:zdw t with
 | false=>simp(disch:=omega)only[↓RD,RZ]; exact⟨rfl,s0.trans s1⟩
 | true =>
  simp(disch:=omega)only[↓RD,RZ,g1,hAll];refine zad (zmG ht a) ?_;rintro _ H2 ⟨rfl,s2⟩;unfold fv;cases zec t a with
  | none=>simp(disch:=omega)only[↓RD,RZ]; exact(s0.trans s1).trans s2
  | some j=>simp(disch:=omega)only[↓RD,RZ]; exact(s0.trans s1).trans s2
end Go.Ax.SU
/- Dk7 -/
namespace Go.Ax.SU
open Go.Ax
abbrev tyDk:=zkG
structure DkH (H:Heap) (d:Nat) (D:List V) (t:Nat→Tb):Prop where
 blk:H.get d=some ⟨tyDk,D,none⟩
 len:D.length=1535
 tb:∀i,i<4→ldc (some 16) D (i*367)=some (.agg (tC (t i)))∧TbO (t i)
theorem DkH.to{H H':Heap}{d:Nat}{D:List V}{t:Nat→Tb}(h:DkH H d D t)(e:H'.get d=H.get d):DkH H' d D t:=⟨e.trans h.blk,h.len,h.tb⟩
def inS(t:Tb)(a:Int):Option Nat:=if zdw t then zec t a else none
def zcN(t:Nat→Tb)(a:Int):Option (Nat×Nat):=(List.range 4).findSome? λi=>(inS (t i) a).map λs=>(i,s)
def wv(d:Nat) (o:Option (Nat×Nat)):V:=match o with|some (i,s)=>.tup [.ptr d (i*367),.int .i64 (s:Nat),.bool true]|none=>.tup [.nilp,.int .i64 0,.bool false]
theorem zj3{t:Nat→Tb}{a:Int} (h:∀k,k<4→inS (t k) a=none):zcN t a=none:=by
 unfold zcN;rw[List.findSome?_eq_none_iff];intro x hx;rw[h x (List.mem_range.1 hx)];rfl
theorem znB{t:Nat→Tb}{a:Int}{i s:Nat}(hi:i<4) (hs:inS (t i) a=some s) (h:∀k,k<i→inS (t k) a=none):zcN t a=some (i,s):=by
 unfold zcN;have e:List.range 4=List.range i++i::(List.range' (i+1) (3-i)):=by
  have:i=0∨i=1∨i=2∨i=3:=by omega
  rcases this with rfl|rfl|rfl|rfl<;>rfl
 rw[e,List.findSome?_append];have h1:(List.range i).findSome? (λi=>(inS (t i) a).map λs=>(i,s))=none:=by
  rw[List.findSome?_eq_none_iff];intro x hx;rw[h x (List.mem_range.1 hx)];rfl
 rw[h1,List.findSome?_cons,hs];rfl
theorem zgP{H:Heap}{d:Nat}{D:List V}{t:Nat→Tb}(hd:DkH H d D t)(hdl:d<H.next)(a:Int):Ok (sem T zch [.ptr d 0,.int .i64 a]) H λr H'=>r=wv d (zcN t a)∧Grow H H':=by
 refine zji ?_;unfold zgE uc;simp(disch:=omega)only[↓RD,RZ];refine zaw (Q:=λr H'=>Grow H H'∧((r = .ex 0 []∧zcN t a=none)∨∃i s:Nat,r = .ret [.ptr d (i*367),.int .i64 (s:Nat),.bool true]∧zcN t a=some (i,s))) ?_ ?_
 ·refine za3 (λj L H'=>L=[.int .i64 (j:Nat)]∧Grow H H'∧∀k,k<j→inS (t k) a=none) 4 ?_ ?_ ?_
  ·exact⟨rfl,Grow.refl _,λk hk=>by omega⟩
  ·rintro j _ H1 hj ⟨rfl,s1,hno⟩;have n1:=s1.next;have g1:=(s1.same d hdl).trans hd.blk;obtain⟨hl,ht⟩:=hd.tb j hj;have d1:decide (((j:Nat):Int)<4)=true:=decide_eq_true (by omega);have d1':decide (j<4)=true:=decide_eq_true hj;have hi:∀{k:IntKind},Ax.iaddr (some 4) 367 (.ptr d 0) (.int k (j:Nat))=some (.ptr d (j*367)):=λ{k}=>by
    simp only[Ax.iaddr];rw[if_pos (by omega),Int.toNat_natCast,Nat.zero_add]
   have w1:IntKind.i64.wrap (((j:Nat):Int)+1)=((j+1:Nat):Int):=by rw[wrap_i64 (by omega) (by omega)]; omega
   unfold zdJ uS uF uNF uE uB uI uc ug;simp(disch:=omega)only[↓RD,RZ,d1,d1',hi,g1,hl];refine zad (zqS ht a) ?_;rintro _ H2 ⟨rfl,s2⟩;have ei:(if zdw (t j) then zec (t j) a else none)=inS (t j) a:=rfl;rw[ei];unfold fv;cases hf:inS (t j) a with
   | none =>
    simp(disch:=omega)only[↓RD,RZ,w1];refine⟨s1.trans s2,λk hk=>?_⟩;by_cases hkk:k<j
    ·exact hno k hkk
    ·have:k=j:=by omega
     subst this;exact hf
   | some s =>
    simp(disch:=omega)only[↓RD,RZ,hi];exact⟨s1.trans s2,.inr ⟨j,s,rfl,znB hj hf hno⟩⟩
  ·rintro _ H1 ⟨rfl,s1,hno⟩;unfold zdJ uS uF uNF uE uB uI uc ug;simp(disch:=omega)only[↓RD,RZ];exact⟨s1,.inl (zj3 hno)⟩
 ·rintro _ H1 ⟨s1,⟨rfl,h⟩|⟨i,s,rfl,h⟩⟩
  ·rw[h]; simp(disch:=omega)only[↓RD,RZ]; exact⟨rfl,s1⟩
  ·rw[h]; simp(disch:=omega)only[↓RD,RZ]; exact⟨rfl,s1⟩
end Go.Ax.SU
/- Dk8 -/
namespace Go.Ax.SU
open Go.Ax
theorem flat_at{α:Type}{k:Nat}:∀(es:List (List α)),(∀x∈es,x.length=k)→∀(i:Nat) (x:List α),es[i]?=some x→(es.flatten.drop (i*k)).take k=x∧i*k+k≤es.flatten.length:=by
 intro es
 induction es with
 | nil=>intro _ i x h; simp at h
 | cons y es ih =>
  intro h i x hx;have hy:=h y List.mem_cons_self;cases i with
  | zero =>
   simp only[List.getElem?_cons_zero,Option.some.injEq]at hx;subst hx;rw[List.flatten_cons,Nat.zero_mul,List.drop_zero,List.take_left' hy,List.length_append];exact⟨rfl,by omega⟩
  | succ i =>
   obtain⟨h1,h2⟩:=ih (λz hz=>h z (List.mem_cons_of_mem _ hz)) i x (by simpa using hx);have e:(i+1)*k=k+i*k:=by rw[Nat.succ_mul]; omega
   rw[List.flatten_cons,List.length_append,e,←List.drop_drop,List.drop_left' hy];exact⟨h1,by omega⟩
abbrev tyPo:=zeE
abbrev tyOu:=zcl
structure Ot where
 to':Int
 kind:Int
 b:List Nat
def oC(e:V×Ot):List V:=[.int .i64 e.2.to',.int .i64 e.2.kind,e.1]
structure Qm (lo:Nat) (H:Heap) (p:Nat) (es:List (V×Ot)):Prop where
 low:p<lo
 top:lo≤H.next
 le:es.length≤32
 mem:∃lv,H.get p=some ⟨tyPo,[.int .i64 32,lv],none⟩∧App tyOu 3 lo H lv ((es.map oC).flatten) es.length∧∀e∈es,∀i,e.1.pid=some i→lv.pid≠some i
 each:∀e∈es,By lo H e.1 e.2.b
structure FrL (lo p:Nat) (H H':Heap):Prop where
 next:H.next≤H'.next
 same:∀i,i<lo→i≠p→H'.get i=H.get i
theorem FrL.refl(lo p:Nat)(H:Heap):FrL lo p H H:=⟨Nat.le_refl _,λ_ _ _=>rfl⟩
theorem FrL.trans{lo p:Nat}{H H1 H2:Heap}(h:FrL lo p H H1)(g:FrL lo p H1 H2):FrL lo p H H2:=⟨Nat.le_trans h.next g.next,λi hi hp=>(g.same i hi hp).trans (h.same i hi hp)⟩
theorem _root_.Go.Ax.Grow.frL{H H':Heap}(h:Grow H H'){lo:Nat}(p:Nat)(hl:lo≤H.next):FrL lo p H H':=⟨h.next,λi hi _=>h.same i (by omega)⟩
theorem _root_.Go.Ax.App.atS{ty e lo n:Nat}{S:List Nat}{H H':Heap}{v:V}{cells:List V}(h:App ty e lo H v cells n)(s:AtS S H H')(hS:∀i,v.pid=some i→i∉S):App ty e lo H' v cells n:=by
 cases h with
 | opn h ho=>exact .opn (h.to λi hi=>s.same i (ho i hi).2 (hS i hi)) λi hi=>⟨(ho i hi).1,Nat.lt_of_lt_of_le (ho i hi).2 s.next⟩
 | lit h h0 h1=>exact .lit ((s.same _ h1 (hS _ rfl)).trans h) h0 (Nat.lt_of_lt_of_le h1 s.next)
theorem _root_.Go.Ax.Step.atS{H H':Heap}{F F':List Nat}(h:Step H H' F F'):AtS F H H':=⟨h.next,h.same⟩
theorem Qm.grow{lo p:Nat}{H H':Heap} {es:List (V×Ot)} (h:Qm lo H p es) (s:Grow H H'):Qm lo H' p es:=by
 obtain⟨lv,h1,h2,h3⟩:=h.mem;have:=h.low;have:=h.top;exact⟨h.low,Nat.le_trans h.top s.next,h.le,⟨lv,(s.same p (by omega)).trans h1,h2.atS (Grow.atS s []) (by simp),h3⟩,λe he=>(h.each e he).ext s⟩
theorem Qm.atS{lo p:Nat}{S:List Nat}{H H':Heap} {es:List (V×Ot)} (h:Qm lo H p es) (s:AtS S H H') (hS:∀i∈S,i<lo∧i≠p):Qm lo H' p es:=by
 obtain⟨lv,h1,h2,h3⟩:=h.mem;have h4:=h.low;have h5:=h.top;refine⟨h.low,Nat.le_trans h.top s.next,h.le,⟨lv,(s.same p (by omega) λe=>(hS p e).2 rfl).trans h1,h2.atS s λi hi e=>?_,h3⟩,λe he=>Lc.atS (h.each e he) s λi hi e'=>?_⟩
 ·have:=(h2.lc.own i hi).1;have:=(hS i e).1;omega
 ·have:=((h.each e he).own i hi).1;have:=(hS i e').1;omega
end Go.Ax.SU
/- Dk9 -/
namespace Go.Ax.SU
open Go.Ax
theorem ok_aadd{β:Type}{H:Heap}{id off:Nat}{b:Blk}{n j:Int}{f:V→M β}{Q:β→Heap→Prop}(hb:H.get id=some b) (hc:b.cells[off]?=some (.int .i64 n))
  (k:Ok (f (.int .i64 (IntKind.i64.wrap (n+j)))) (H.set id (some { b with cells:=splice b.cells off [.int .i64 (IntKind.i64.wrap (n+j))] })) Q):Ok ((matoadd .i64 (.ptr id off) (.int .i64 j)).bind f) H Q:=by
 refine zao ⟨_,_,?_,k⟩;simp only[matoadd,hb,Option.bind_some,hc,if_true]
theorem ok_aload{β:Type}{H:Heap}{id off:Nat}{b:Blk}{n:Int}{f:V→M β}{Q:β→Heap→Prop}(hb:H.get id=some b) (hc:b.cells[off]?=some (.int .i64 n)) (k:Ok (f (.int .i64 n)) H Q):Ok ((matoload .i64 (.ptr id off)).bind f) H Q:=by
 refine zao ⟨_,_,?_,k⟩;simp only[matoload,mload,hb,Option.bind_some,ldc,hc,Option.map_some,if_true]
def c64(n:Nat):V:=.int .i64 (n:Nat)
structure Cm (H:Heap) (C cs:Nat) (ns:List Nat):Prop where
 hd:∃cap,H.get C=some ⟨zf7,[.sl cs 0 11 cap],none⟩
 bd:∃o,H.get cs=some ⟨zc3,ns.map c64,o⟩
 len:ns.length=11
 small:∀n∈ns,n<4611686018427387904
theorem zwV{H:Heap}{C cs i:Nat}{ns:List Nat}(h:Cm H C cs ns)(hne:C≠cs)(hi:i<11)(hs:ns.getD i 0+1<4611686018427387904):Ok (sem T zbq [.ptr C 0,.int .i64 (i:Nat)]) H λr H'=>r = .tup []∧AtS [cs] H H'∧Cm H' C cs (ns.set i (ns.getD i 0+1)):=by
 refine zjg ?_;unfold zgC uL uNFM uB uI uG uH uc;obtain⟨cap,h1⟩:=h.hd;obtain⟨o,h2⟩:=h.bd;have hl:=h.len;have d:decide ((0:Int)≤((i:Nat):Int))=true:=decide_eq_true (by omega);have d2:decide (((i:Nat):Int)<11)=true:=decide_eq_true (by omega);have d2':decide (i<11)=true:=decide_eq_true hi;have hv:Ax.vlen (.sl cs 0 11 cap)=some (.int .i64 11):=rfl;have hia:∀{k:IntKind},Ax.iaddr none 1 (.sl cs 0 11 cap) (.int k (i:Nat))=some (.ptr cs i):=λ{k}=>by rw[zfW (by omega) (by omega),Int.toNat_natCast,Nat.mul_one,Nat.zero_add]
 have hg:ns[i]?=some (ns.getD i 0):=by rw[List.getD_eq_getElem?_getD,List.getElem?_eq_getElem (by omega)]; rfl
 have hc:(ns.map c64)[i]?=some (.int .i64 (ns.getD i 0:Nat)):=by rw[List.getElem?_map,hg]; rfl
 have w:IntKind.i64.wrap (((ns.getD i 0:Nat):Int)+1)=((ns.getD i 0+1:Nat):Int):=by rw[wrap_i64 (by omega) (by omega)]; omega
 simp(disch:=omega)only[↓RD,RZ,d,h1,hv,d2,d2',hia];rw[zcG];refine zad (P:=λr H'=>H'=H.set cs (some ⟨zc3,(ns.set i (ns.getD i 0+1)).map c64,o⟩)) ?_ ?_
 ·refine zgv ?_;unfold zed uNF;refine zat rfl ?_;refine zat rfl ?_;refine ok_aadd h2 hc ?_;rw[w];have e:splice (ns.map c64) (i+0) [.int .i64 (ns.getD i 0+1:Nat)]=(ns.set i (ns.getD i 0+1)).map c64:=by
   unfold splice;rw[List.map_set,List.set_eq_take_append_cons_drop,if_pos (by rw[List.length_map]; omega),List.append_assoc];rfl
  dsimp only;rw[e];exact zhO ⟨_,rfl,rfl⟩
 ·rintro _ _ rfl;simp(disch:=omega)only[↓RD,RZ];have a1:AtS [cs] H (H.set cs (some ⟨zc3,(ns.set i (ns.getD i 0+1)).map c64,o⟩)):=AtS.set _ (by simp) _;refine⟨rfl,a1,⟨⟨cap,(zap _ _ hne).trans h1⟩,⟨o,zan _ _ _⟩,by rw[List.length_set]; exact hl,λn hn=>?_⟩⟩;rcases List.mem_or_eq_of_mem_set hn with hn|rfl
  ·exact h.small n hn
  ·exact hs
theorem Of_ok{H:Heap}{C cs i:Nat}{ns:List Nat}(h:Cm H C cs ns)(hi:i<11):Ok (sem T zdk [.ptr C 0,.int .i64 (i:Nat)]) H λr H'=>r = .int .i64 (ns.getD i 0:Nat)∧H'=H:=by
 refine zkd ?_;unfold zhq uL uNFM uB uI uG uH uc;obtain⟨cap,h1⟩:=h.hd;obtain⟨o,h2⟩:=h.bd;have hl:=h.len;have d:decide (((i:Nat):Int)<0)=false:=decide_eq_false (by omega);have d2:decide ((11:Int)≤((i:Nat):Int))=false:=decide_eq_false (by omega);have d2':decide (11≤i)=false:=decide_eq_false (by omega);have hv:Ax.vlen (.sl cs 0 11 cap)=some (.int .i64 11):=rfl;have hia:∀{k:IntKind},Ax.iaddr none 1 (.sl cs 0 11 cap) (.int k (i:Nat))=some (.ptr cs i):=λ{k}=>by rw[zfW (by omega) (by omega),Int.toNat_natCast,Nat.mul_one,Nat.zero_add]
 have hg:ns[i]?=some (ns.getD i 0):=by rw[List.getD_eq_getElem?_getD,List.getElem?_eq_getElem (by omega)]; rfl
 have hc:(ns.map c64)[i]?=some (.int .i64 (ns.getD i 0:Nat)):=by rw[List.getElem?_map,hg]; rfl
 simp(disch:=omega)only[↓RD,RZ,d,h1,hv,d2,d2',hia];rw[zcG];refine zad (P:=λr H'=>r=V.int .i64 (ns.getD i 0:Nat)∧H'=H) ?_ ?_
 ·refine zgd ?_;unfold zdT uNF;refine zat rfl ?_;refine zat rfl ?_;refine ok_aload h2 hc ?_;exact zhO ⟨_,rfl,rfl,rfl⟩
 ·rintro _ _ ⟨rfl,rfl⟩;simp(disch:=omega)only[↓RD,RZ]
structure DS (lo:Nat) (H:Heap) (d p C cs a:Nat) (D:List V) (t:Nat→Tb) (es:List (V×Ot)) (ns:List Nat):Prop where
 dk:DkH H d D t
 cm:Cm H C cs ns
 qm:Qm lo H p es
 dl:d<lo
 Cl:C<lo
 cl:cs<lo
 dp:d≠p
 Cp:C≠p
 cp:cs≠p
 dc:d≠cs
 Cc:C≠cs
 a64:a<64
 po:D[1470+a]?=some (.ptr p 0)
 co:D[1534]?=some (.ptr C 0)
theorem DS.grow{lo:Nat}{H H':Heap}{d p C cs a:Nat}{D:List V}{t:Nat→Tb} {es:List (V×Ot)} {ns:List Nat} (h:DS lo H d p C cs a D t es ns) (s:Grow H H'):DS lo H' d p C cs a D t es ns:=by
 have h1:=h.qm.top;have h2:=h.dl;have h3:=h.Cl;have h4:=h.cl;obtain⟨cap,g1⟩:=h.cm.hd;obtain⟨o,g2⟩:=h.cm.bd;exact⟨h.dk.to (s.same d (by omega)),⟨⟨cap,(s.same C (by omega)).trans g1⟩,⟨o,(s.same cs (by omega)).trans g2⟩,h.cm.len,h.cm.small⟩,h.qm.grow s,h.dl,h.Cl,h.cl,h.dp,h.Cp,h.cp,h.dc,h.Cc,h.a64,h.po,h.co⟩
theorem DS.one{lo:Nat}{H H':Heap}{d p C cs a:Nat}{D:List V}{t:Nat→Tb} {es:List (V×Ot)} {ns ns':List Nat} (h:DS lo H d p C cs a D t es ns) (s:AtS [cs] H H') (hc:Cm H' C cs ns'):DS lo H' d p C cs a D t es ns':=by
 have h1:=h.qm.top;have h2:=h.dl;exact⟨h.dk.to (s.same d (by omega) (by simp; exact h.dc)),hc,h.qm.atS s (λi hi=>by simp only[List.mem_singleton]at hi; subst hi; exact⟨h.cl,h.cp⟩),h.dl,h.Cl,h.cl,h.dp,h.Cp,h.cp,h.dc,h.Cc,h.a64,h.po,h.co⟩
theorem DS.post{lo:Nat}{H H':Heap}{d p C cs a:Nat}{D:List V}{t:Nat→Tb} {es es':List (V×Ot)} {ns:List Nat} (h:DS lo H d p C cs a D t es ns) (s:FrL lo p H H') (hq:Qm lo H' p es'):DS lo H' d p C cs a D t es' ns:=by
 obtain⟨cap,g1⟩:=h.cm.hd;obtain⟨o,g2⟩:=h.cm.bd;exact⟨h.dk.to (s.same d h.dl h.dp),⟨⟨cap,(s.same C h.Cl h.Cp).trans g1⟩,⟨o,(s.same cs h.cl h.cp).trans g2⟩,h.cm.len,h.cm.small⟩,hq,h.dl,h.Cl,h.cl,h.dp,h.Cp,h.cp,h.dc,h.Cc,h.a64,h.po,h.co⟩
def zom(es:List Ot)(o:Ot):List Ot:=if es.length<32 then es++[o] else es
def zol(es:List Ot)(ns:List Nat):List Nat:=if es.length<32 then ns else ns.set 10 (ns.getD 10 0+1)
end Go.Ax.SU
/- Dk10 -/
namespace Go.Ax.SU
open Go.Ax
def sayE(es:List Ot)(a:Nat)(x:Nt):List Ot:=if zfb x then zom es ⟨(a:Nat),2,zaN x⟩ else es
def sayN(es:List Ot)(ns:List Nat)(x:Nt):List Nat:=if zfb x then zol es ns else ns
theorem by2_len(l:List Nat):(l.flatMap by2).length=2*l.length:=by
 induction l with
 | nil=>rfl
 | cons a l ih=>rw[List.flatMap_cons,List.length_append,ih,List.length_cons]; simp[by2]; omega
theorem zdZ(x:Nt):(zaN x).length=11+x.b.length:=by
 unfold zaN;rw[List.length_append,List.length_append,by2_len];rfl
def noX(e k:Int):Nt:=⟨18,0,0,0,e,k,[]⟩
end Go.Ax.SU
/- Dk11 -/
namespace Go.Ax.SU
open Go.Ax
theorem AtS.setn'{S:List Nat}{H H':Heap}(h:AtS S H H'){q:Nat}(hq:H.next≤q)(b:Option Blk):AtS S H (H'.set q b) :=
 ⟨by rw[zbg]; exact h.next,λi hi hs=>by rw[zap _ _ (by omega)]; exact h.same i hi hs⟩
theorem zv7 {es:List (V×Ot)} {e:V×Ot} {l:List (V×Ot)} (h:es=e::l):(((es.map oC).flatten).drop ((0:Int).toNat*3)).take 3=oC e:=by
 subst h;rfl
structure DT (H:Heap) (d p a:Nat) (D:List V):Prop where
 blk:H.get d=some ⟨tyDk,D,none⟩
 dl:d<H.next
 pl:p<H.next
 dp:d≠p
 a64:a<64
 po:D[1470+a]?=some (.ptr p 0)
theorem DT.atS{H H':Heap}{d p a:Nat}{D:List V}(h:DT H d p a D) (s:AtS [p] H H'):DT H' d p a D :=
 ⟨(s.same d h.dl (by simp; exact h.dp)).trans h.blk,Nat.lt_of_lt_of_le h.dl s.next,Nat.lt_of_lt_of_le h.pl s.next,h.dp,h.a64,h.po⟩
end Go.Ax.SU
/- Dk12 -/
namespace Go.Ax.SU
open Go.Ax
theorem zgN{H:Heap}{d a:Nat}{bv:V}(n:Int){Q:Heap→Prop}(ha:a<64) (vc:bv.cells=[bv]) (vo:bv.okc=true)
  (h:∀H1,Grow H H1→Ok (sem T zaO [.ptr d 0,.int .i64 (a:Nat),bv]) H1 λr H'=>r = .tup []∧Q H') :
  Ok (sem T zaG [.ptr d 0,.agg [.int .i64 2,.int .i64 (a:Nat),.int .i64 n,bv]]) H λr H'=>r = .tup [.nils,.int .i64 0]∧Q H':=by
 refine zd4 ?_;unfold zdB uL uT uFM uNFM uNF uB uG uH uO uc;refine zao (zaK (by simp[V.okc,vo]) ?_);rw[zam];have s0:=Grow.new H ⟨zbB,[.int .i64 2,.int .i64 (a:Nat),.int .i64 n,bv],none⟩;have g0:(H.new ⟨zbB,[.int .i64 2,.int .i64 (a:Nat),.int .i64 n,bv],none⟩).get H.next=some ⟨zbB,[.int .i64 2,.int .i64 (a:Nat),.int .i64 n,bv],none⟩:=zac _ _;generalize hq:H.next=q at *;generalize H.new _=H0 at *;have w:=@zaQ _ _ _ _ (@zid H0 (a:Nat));have e:(decide ((0:Int)≤((a:Nat):Int))&&decide (((a:Nat):Int)≤63))=true:=by
  rw[decide_eq_true (by omega),decide_eq_true (by omega)]; rfl
 rw[e]at w;simp(disch:=omega)only[↓RD,RZ,g0,w];refine zad (h H0 s0) ?_;rintro _ H1 ⟨rfl,hq⟩;simp(disch:=omega)only[↓RD,RZ];exact hq
theorem zuk{H:Heap}{d a n:Nat}{bv:V}{Q:V→Heap→Prop}(ha:a<64)(hn:n≤32) (vc:bv.cells=[bv]) (vo:bv.okc=true)
  (h:∀H1,Grow H H1→Ok (sem T zci [.ptr d 0,.int .i64 (a:Nat),.int .i64 (n:Nat)]) H1 Q) :
  Ok (sem T zaG [.ptr d 0,.agg [.int .i64 5,.int .i64 (a:Nat),.int .i64 (n:Nat),bv]]) H λr H'=>∃v,r = .tup [v,.int .i64 0]∧Q v H':=by
 refine zd4 ?_;unfold zdB uL uT uFM uNFM uNF uB uG uH uO uc;refine zao (zaK (by simp[V.okc,vo]) ?_);rw[zam];have s0:=Grow.new H ⟨zbB,[.int .i64 5,.int .i64 (a:Nat),.int .i64 (n:Nat),bv],none⟩;have g0:(H.new ⟨zbB,[.int .i64 5,.int .i64 (a:Nat),.int .i64 (n:Nat),bv],none⟩).get H.next=some ⟨zbB,[.int .i64 5,.int .i64 (a:Nat),.int .i64 (n:Nat),bv],none⟩:=zac _ _;generalize hq:H.next=q at *;generalize H.new _=H0 at *;have w:=@zaQ _ _ _ _ (@zid H0 (a:Nat));have e:(decide ((0:Int)≤((a:Nat):Int))&&decide (((a:Nat):Int)≤63))=true:=by
  rw[decide_eq_true (by omega),decide_eq_true (by omega)]; rfl
 rw[e]at w;have d1:decide (((n:Nat):Int)<0)=false:=decide_eq_false (by omega);have d2:decide ((32:Int)<((n:Nat):Int))=false:=decide_eq_false (by omega);have d2':decide (32<n)=false:=decide_eq_false (by omega);simp(disch:=omega)only[↓RD,RZ,g0,w,d1,d2,d2'];refine zad (h H0 s0) ?_;intro v H1 hq;simp(disch:=omega)only[↓RD,RZ];exact⟨v,rfl,hq⟩
end Go.Ax.SU
/- Dk13 -/
namespace Go.Ax.SU
open Go.Ax
def txt(l:List Nat):V:=.str ⟨(l.map UInt8.ofNat).toArray⟩
theorem txt_len(l:List Nat):Ax.slen (txt l)=some (.int .i64 (l.length:Nat)):=by
 unfold txt;simp only[Ax.slen,ByteArray.size,List.size_toArray,List.length_map]
theorem txt_at{l:List Nat}(h:Ok8 l){i:Nat}(hi:i<l.length):Ax.sindex (txt l) (.int .i64 (i:Nat))=some (.int .u8 (l.getD i 0:Nat)):=by
 have hg:l.getD i 0=l[i]:=by rw[List.getD_eq_getElem?_getD,List.getElem?_eq_getElem hi]; rfl
 have h8:l[i]<256:=h _ (List.getElem_mem hi);unfold txt;simp only[Ax.sindex,Int.toNat_natCast];rw[if_pos (by omega)];have:(⟨(l.map UInt8.ofNat).toArray⟩:ByteArray)[i]?=some (UInt8.ofNat l[i]):=by
  rw[getElem?_pos _ _ (by simp[ByteArray.size]; exact hi)];simp[ByteArray.getElem_eq_getElem_data]
 rw[this,hg];simp only[Option.map_some,UInt8.toNat_ofNat',Option.some.injEq];rw[Nat.mod_eq_of_lt (by simpa using h8)]
theorem zmu{H:Heap}{l:List Nat}{c:Nat}(h:Ok8 l)(hl:l.length≤1000):Ok (sem T zaq [txt l,.int .u8 (c:Nat)]) H λr H'=>r = .bool (l.contains c)∧H'=H:=by
 refine zhR ?_;unfold ze8 uc;have hsl:=txt_len l;simp(disch:=omega)only[↓RD,RZ];refine zaw (Q:=λr H'=>H'=H∧((r = .ex 0 []∧l.contains c=false)∨(r = .ret [.bool true]∧l.contains c=true))) ?_ ?_
 ·refine za3 (λj L H'=>L=[.int .i64 (j:Nat)]∧H'=H∧∀k (hk:k<l.length),k<j→l[k]≠c) l.length ?_ ?_ ?_
  ·exact⟨rfl,rfl,λk _ hk=>by omega⟩
  ·rintro j _ H1 hj ⟨rfl,rfl,hno⟩;have d1:decide (((j:Nat):Int)<((l.length:Nat):Int))=true:=decide_eq_true (by omega);have d1':decide (j<l.length)=true:=decide_eq_true hj;have hx:=txt_at h hj;have hg:l.getD j 0=l[j]:=by rw[List.getD_eq_getElem?_getD,List.getElem?_eq_getElem hj]; rfl
   rw[hg]at hx;have w1:IntKind.i64.wrap (((j:Nat):Int)+1)=((j+1:Nat):Int):=by rw[wrap_i64 (by omega) (by omega)]; omega
   unfold zcU uL uB uc ug;by_cases hc:l[j]=c
   ·have b1:(((l[j]:Nat):Int)==((c:Nat):Int))=true:=by rw[hc]; simp
    have b1':(l[j]==c)=true:=by simpa using hc
    simp(disch:=omega)only[↓RD,RZ,hsl,d1,d1',hx,b1,b1'];exact .inr (by rw[List.contains_iff_mem,←hc]; exact List.getElem_mem hj)
   ·have b1:(((l[j]:Nat):Int)==((c:Nat):Int))=false:=by simp; omega
    have b1':(l[j]==c)=false:=by simpa using hc
    simp(disch:=omega)only[↓RD,RZ,hsl,d1,d1',hx,b1,b1',w1];intro k hk hkj;by_cases hkk:k<j
    ·exact hno k hk hkk
    ·have:k=j:=by omega
     subst this;exact hc
  ·rintro _ H1 ⟨rfl,rfl,hno⟩;have d1:decide (((l.length:Nat):Int)<((l.length:Nat):Int))=false:=decide_eq_false (by omega);have d1':decide (l.length<l.length)=false:=decide_eq_false (by omega);unfold zcU uL uB uc ug;simp(disch:=omega)only[↓RD,RZ,hsl,d1,d1'];refine .inl ?_;cases hh:l.contains c with
   | false=>rfl
   | true =>
    rw[List.contains_iff_mem]at hh;obtain⟨k,hk,e⟩:=List.mem_iff_getElem.1 hh;exact absurd e (hno k hk hk)
 ·rintro _ H1 ⟨rfl,⟨rfl,h⟩|⟨rfl,h⟩⟩
  ·rw[h]; simp(disch:=omega)only[↓RD,RZ]
  ·rw[h]; simp(disch:=omega)only[↓RD,RZ]
theorem in_ok{H:Heap}(x lo hi:Int):Ok (sem T zaL [.int .i64 x,.int .i64 lo,.int .i64 hi]) H λr H'=>r = .bool (decide (lo≤x)&&decide (x≤hi))∧H'=H:=by
 refine ziv ?_;unfold zfH uL uB uG uH;by_cases h:lo≤x
 ·have d:decide (lo≤x)=true:=decide_eq_true h;simp(disch:=omega)only[↓RD,RZ,d,Bool.true_and]
 ·have d:decide (lo≤x)=false:=decide_eq_false h;simp(disch:=omega)only[↓RD,RZ,d,Bool.false_and]
theorem fields2{H:Heap}:Ok (sem T zaI [.int .i64 2]) H λr H'=>r=txt [45]∧H'=H:=by
 refine za4 ?_;unfold za1 uB uc ug;simp(disch:=omega)only[↓RD,RZ];rfl
theorem fields18{H:Heap}:Ok (sem T zaI [.int .i64 18]) H λr H'=>r=txt [110,109]∧H'=H:=by
 refine za4 ?_;unfold za1 uB uc ug;simp(disch:=omega)only[↓RD,RZ];rfl
end Go.Ax.SU
/- Dk14 -/
namespace Go.Ax.SU
open Go.Ax
theorem znD{l:List Nat}(h:Ok8 l) (hl:l≠[]):Ax.bin .eql (txt l) (.str ⟨#[]⟩)=some (.bool false):=by
 have e:=bytes_eq (a:=l) (b:=[]) h (by simp);rw[decide_eq_false hl]at e;unfold txt;simp only[Ax.bin];exact congrArg (λx=>some (V.bool x)) e
theorem good_r2{lo:Nat}{H:Heap}  {bv:V} (hb:By lo H bv []):Ok (sem T zas [.agg (nC ⟨2,0,0,0,0,0,[]⟩ bv)]) H λr H'=>r = .bool true∧Grow H H':=by
 refine za8 ?_;unfold za6 uL uFM uB uG uH uO uc ub ug;have vc:=hb.cells1;have vo:=hb.okc;refine zao (zaK (by simp[nC,V.okc,vo]) ?_);rw[zam];have s0:=Grow.new H ⟨zab,nC ⟨2,0,0,0,0,0,[]⟩ bv,none⟩;have g0:(H.new ⟨zab,nC ⟨2,0,0,0,0,0,[]⟩ bv,none⟩).get H.next=some ⟨zab,nC ⟨2,0,0,0,0,0,[]⟩ bv,none⟩:=zac _ _;have n0:(H.new ⟨zab,nC ⟨2,0,0,0,0,0,[]⟩ bv,none⟩).next=H.next+1:=zaf _ _;generalize hq:H.next=q at *;generalize H.new _=H1 at *;unfold nC at g0
 skip
 dsimp only at g0;have bl:=(hb.ext s0).vlen;have f1:=@zaQ _ _ _ _ (@fields2 H1);have wi:∀{x lo hi:Int} {f:V→M Res} {Q:Res→Heap→Prop},lo≤x→x≤hi→(@OkB V Res (sem T zaL [.int .i64 x,.int .i64 lo,.int .i64 hi]) H1 ⟨f⟩ ⟨Q⟩↔Ok (f (.bool true)) H1 Q):=λ{x lo hi f Q} h1 h2=>by
  have:=@zaQ _ _ _ _ (@in_ok H1 x lo hi);rw[decide_eq_true h1,decide_eq_true h2]at this;exact this
 have es:Ax.bin .eql (txt [45]) (.str ⟨#[]⟩)=some (.bool false):=znD (l:=[45]) (all8 rfl) (by decide);have h114:=@zaQ _ _ _ _ (show Ok (sem T zaq [txt [45],.int .u8 114]) H1 (λr H'=>r = .bool false∧H'=H1) from zmu (l:=[45]) (c:=114) (all8 rfl) (by decide));have h115:=@zaQ _ _ _ _ (show Ok (sem T zaq [txt [45],.int .u8 115]) H1 (λr H'=>r = .bool false∧H'=H1) from zmu (l:=[45]) (c:=115) (all8 rfl) (by decide));have h101:=@zaQ _ _ _ _ (show Ok (sem T zaq [txt [45],.int .u8 101]) H1 (λr H'=>r = .bool false∧H'=H1) from zmu (l:=[45]) (c:=101) (all8 rfl) (by decide));have h110:=@zaQ _ _ _ _ (show Ok (sem T zaq [txt [45],.int .u8 110]) H1 (λr H'=>r = .bool false∧H'=H1) from zmu (l:=[45]) (c:=110) (all8 rfl) (by decide));have h109:=@zaQ _ _ _ _ (show Ok (sem T zaq [txt [45],.int .u8 109]) H1 (λr H'=>r = .bool false∧H'=H1) from zmu (l:=[45]) (c:=109) (all8 rfl) (by decide));have h98:=@zaQ _ _ _ _ (show Ok (sem T zaq [txt [45],.int .u8 98]) H1 (λr H'=>r = .bool false∧H'=H1) from zmu (l:=[45]) (c:=98) (all8 rfl) (by decide));simp(disch:=first|omega|(simp only[RY]<;>omega)|decide)only[↓RD,RZ,Nat.reduceAdd,g0,f1,wi,es,h114,h115,h101,h110,h109,h98,bl];exact s0
end Go.Ax.SU
/- Dk15 -/
namespace Go.Ax.SU
open Go.Ax
theorem num2(y:Nat):num y 2=by2 y:=by
 unfold num by2;simp[List.range,List.range.loop]
theorem u64_n{y:Nat}(h:y≤1000000):IntKind.u64.wrap ((y:Nat):Int)=((y:Nat):Int):=by rw[wrap_u64]; omega
theorem zum{lo:Nat}{H:Heap}{bv:V}{k r s e n m:Nat}{b:List Nat}(hb:By lo H bv b)
  (hg:∀H',By lo H' bv b→Ok (sem T zas [.agg (nC ⟨(k:Nat),(r:Nat),(s:Nat),(e:Nat),(n:Nat),(m:Nat),b⟩ bv)]) H' λr' H''=>r' = .bool true∧Grow H' H'')
  (h8:k<256∧r<256∧s<256) (h16:e≤65535∧n≤65535∧m≤65535) (hl:b.length≤200) :
  Ok (sem T zbO [.agg (nC ⟨(k:Nat),(r:Nat),(s:Nat),(e:Nat),(n:Nat),(m:Nat),b⟩ bv)]) H λr' H'=>Grow H H'∧∃v,r' = .tup [v,.int .i64 0]∧Ab H.next H' v (zaN ⟨(k:Nat),(r:Nat),(s:Nat),(e:Nat),(n:Nat),(m:Nat),b⟩):=by
 refine zgV ?_;unfold zek uL uM uS uF uFM uO uU uc ub;obtain⟨h1,h2,h3⟩:=h8;obtain⟨h4,h5,h6⟩:=h16;have vc:=hb.cells1;have vo:=hb.okc;refine zao (zaK (by simp[nC,V.okc,vo]) ?_);rw[zam];have s0:=Grow.new H ⟨zab,nC ⟨(k:Nat),(r:Nat),(s:Nat),(e:Nat),(n:Nat),(m:Nat),b⟩ bv,none⟩;have g0:(H.new ⟨zab,nC ⟨(k:Nat),(r:Nat),(s:Nat),(e:Nat),(n:Nat),(m:Nat),b⟩ bv,none⟩).get H.next=some ⟨zab,nC ⟨(k:Nat),(r:Nat),(s:Nat),(e:Nat),(n:Nat),(m:Nat),b⟩ bv,none⟩:=zac _ _;have n0:(H.new ⟨zab,nC ⟨(k:Nat),(r:Nat),(s:Nat),(e:Nat),(n:Nat),(m:Nat),b⟩ bv,none⟩).next=H.next+1:=zaf _ _;generalize hq:H.next=q at *;generalize H.new _=H0 at *;have l0:ldc (some 7) (nC ⟨(k:Nat),(r:Nat),(s:Nat),(e:Nat),(n:Nat),(m:Nat),b⟩ bv) 0=some (.agg (nC ⟨(k:Nat),(r:Nat),(s:Nat),(e:Nat),(n:Nat),(m:Nat),b⟩ bv)):=rfl;simp(maxSteps:=1000000) (disch:=first|omega|(simp only[RY]<;>omega)|decide)only[↓RD,RZ,eq_self,Int.reduceToNat,Int.reduceAdd,Int.reduceSub,Int.reduceMul,Nat.reduceAdd,Nat.reduceSub,Nat.reduceMul,Nat.reduceDiv,Nat.reduceMod,Nat.reduceBEq,Nat.reduceLeDiff,g0,l0];refine zad (hg H0 (hb.ext s0)) ?_;rintro _ H1 ⟨rfl,s1⟩;have n1:=s1.next;have s01:=s0.trans s1;have g1:=(s1.same q (by omega)).trans g0;unfold nC at g1;dsimp only at g1;have w8:∀y:Nat,y<256→IntKind.u8.wrap ((y:Nat):Int)=((y:Nat):Int):=λy hy=>by rw[wrap_u8]; omega
 have wk:=w8 k h1;have wr:=w8 r h2;have ws:=w8 s h3;have u1:=u64_n (y:=e) (by omega);have u2:=u64_n (y:=n) (by omega);have u3:=u64_n (y:=m) (by omega);have u4:=u64_n (y:=b.length) (by omega);simp(maxSteps:=1000000) (disch:=first|omega|(simp only[RY]<;>omega)|decide)only[↓RD,RZ,eq_self,Int.reduceToNat,Int.reduceAdd,Int.reduceSub,Int.reduceMul,Nat.reduceAdd,Nat.reduceSub,Nat.reduceMul,Nat.reduceDiv,Nat.reduceMod,Nat.reduceBEq,Nat.reduceLeDiff,g1,wk,wr,ws,u1];have sA:=Grow.new H1 ⟨zak,[.int .u8 (k:Nat),.int .u8 (r:Nat),.int .u8 (s:Nat)],none⟩;have gA:(H1.new ⟨zak,[.int .u8 (k:Nat),.int .u8 (r:Nat),.int .u8 (s:Nat)],none⟩).get H1.next = _:=zac _ _;have nA:(H1.new ⟨zak,[.int .u8 (k:Nat),.int .u8 (r:Nat),.int .u8 (s:Nat)],none⟩).next=H1.next+1:=zaf _ _;rw[zcG];generalize hp:H1.next=p at *;generalize H1.new _=H2 at *;have hv0:By p H2 (.sl p 0 3 (.fix 3)) [k,r,s]:=Ab.by (.full gA rfl (Nat.le_refl _) (by omega));have g2:=(sA.same q (by omega)).trans g1;refine zad (U_ok e 2 hv0 (by omega) (by omega) (by simp)) ?_;rintro v1 H3 ⟨hv1,s3⟩;have n3:=s3.next;have g3:=(s3.same q (by omega)).trans g2;simp(maxSteps:=1000000) (disch:=first|omega|(simp only[RY]<;>omega)|decide)only[↓RD,RZ,eq_self,Int.reduceToNat,Int.reduceAdd,Int.reduceSub,Int.reduceMul,Nat.reduceAdd,Nat.reduceSub,Nat.reduceMul,Nat.reduceDiv,Nat.reduceMod,Nat.reduceBEq,Nat.reduceLeDiff,g3,u2];refine zad (U_ok n 2 hv1.by (by omega) (by omega) (by simp[zoR])) ?_;rintro v2 H4 ⟨hv2,s4⟩;have n4:=s4.next;have g4:=(s4.same q (by omega)).trans g3;simp(maxSteps:=1000000) (disch:=first|omega|(simp only[RY]<;>omega)|decide)only[↓RD,RZ,eq_self,Int.reduceToNat,Int.reduceAdd,Int.reduceSub,Int.reduceMul,Nat.reduceAdd,Nat.reduceSub,Nat.reduceMul,Nat.reduceDiv,Nat.reduceMod,Nat.reduceBEq,Nat.reduceLeDiff,g4,u3];refine zad (U_ok m 2 hv2.by (by omega) (by omega) (by simp[zoR])) ?_;rintro v3 H5 ⟨hv3,s5⟩;have n5:=s5.next;have g5:=(s5.same q (by omega)).trans g4;have s05:=s01.trans (sA.trans (s3.trans (s4.trans s5)));have bl:=(hb.ext s05).vlen;simp(maxSteps:=1000000) (disch:=first|omega|(simp only[RY]<;>omega)|decide)only[↓RD,RZ,eq_self,Int.reduceToNat,Int.reduceAdd,Int.reduceSub,Int.reduceMul,Nat.reduceAdd,Nat.reduceSub,Nat.reduceMul,Nat.reduceDiv,Nat.reduceMod,Nat.reduceBEq,Nat.reduceLeDiff,g5,bl,u4];refine zad (U_ok b.length 2 hv3.by (by omega) (by omega) (by simp[zoR])) ?_;rintro v4 H6 ⟨hv4,s6⟩;have n6:=s6.next;have e6:=s6.same q (by omega);have s06:=s05.trans s6;simp(maxSteps:=1000000) (disch:=first|omega|(simp only[RY]<;>omega)|decide)only[↓RD,RZ,eq_self,Int.reduceToNat,Int.reduceAdd,Int.reduceSub,Int.reduceMul,Nat.reduceAdd,Nat.reduceSub,Nat.reduceMul,Nat.reduceDiv,Nat.reduceMod,Nat.reduceBEq,Nat.reduceLeDiff,e6];refine okb_ab hv4 n6 (hb.ext s06).ac (by simp only[List.length_append,zoR,List.length_cons,List.length_nil]; omega) λv5 H7 hv5 b7=>?_;simp(maxSteps:=1000000) (disch:=first|omega|(simp only[RY]<;>omega)|decide)only[↓RD,RZ,eq_self,Int.reduceToNat,Int.reduceAdd,Int.reduceSub,Int.reduceMul,Nat.reduceAdd,Nat.reduceSub,Nat.reduceMul,Nat.reduceDiv,Nat.reduceMod,Nat.reduceBEq,Nat.reduceLeDiff]
 have n05:=s05.next;refine⟨s06.bel' (by omega) b7,v5,rfl,?_⟩;have e':zaN ⟨(k:Nat),(r:Nat),(s:Nat),(e:Nat),(n:Nat),(m:Nat),b⟩=[k,r,s]++num e 2++num n 2++num m 2++num b.length 2++b:=by
  unfold zaN;simp only[Int.toNat_natCast,num2,List.flatMap_cons,List.flatMap_nil,List.append_nil,List.append_assoc]
 rw[e'];exact Apf.low hv5 (by omega)
theorem zot{lo:Nat}{H:Heap}{bv:V}{k r s e n m:Nat}{b:List Nat}(hb:By lo H bv b)
  (hg:∀H',By lo H' bv b→Ok (sem T zas [.agg (nC ⟨(k:Nat),(r:Nat),(s:Nat),(e:Nat),(n:Nat),(m:Nat),b⟩ bv)]) H' λr' H''=>r' = .bool true∧Grow H' H'')
  (h8:k<256∧r<256∧s<256) (h16:e≤65535∧n≤65535∧m≤65535) (hl:b.length≤200) :
  Ok (sem T zay [.agg (nC ⟨(k:Nat),(r:Nat),(s:Nat),(e:Nat),(n:Nat),(m:Nat),b⟩ bv)]) H λr' H'=>Grow H H'∧Ab H.next H' r' (zaN ⟨(k:Nat),(r:Nat),(s:Nat),(e:Nat),(n:Nat),(m:Nat),b⟩):=by
 refine zhz ?_;unfold zeR uS uE uO;have vc:=hb.cells1;have vo:=hb.okc;refine zao (zaK (by simp[nC,V.okc,vo]) ?_);rw[zam];have s0:=Grow.new H ⟨zab,nC ⟨(k:Nat),(r:Nat),(s:Nat),(e:Nat),(n:Nat),(m:Nat),b⟩ bv,none⟩;have g0:(H.new ⟨zab,nC ⟨(k:Nat),(r:Nat),(s:Nat),(e:Nat),(n:Nat),(m:Nat),b⟩ bv,none⟩).get H.next=some ⟨zab,nC ⟨(k:Nat),(r:Nat),(s:Nat),(e:Nat),(n:Nat),(m:Nat),b⟩ bv,none⟩:=zac _ _;generalize hq:H.next=q at *;generalize H.new _=H0 at *;have l0:ldc (some 7) (nC ⟨(k:Nat),(r:Nat),(s:Nat),(e:Nat),(n:Nat),(m:Nat),b⟩ bv) 0=some (.agg (nC ⟨(k:Nat),(r:Nat),(s:Nat),(e:Nat),(n:Nat),(m:Nat),b⟩ bv)):=rfl;have n1:=s0.next;simp(disch:=omega)only[↓RD,RZ,g0,l0];refine zad (zum (hb.ext s0) hg h8 h16 hl) ?_;rintro _ H1 ⟨s1,v,rfl,hv⟩;simp(disch:=omega)only[↓RD,RZ];exact⟨s0.trans s1,Apf.low hv (by omega)⟩
end Go.Ax.SU
/- Dk16 -/
namespace Go.Ax.SU
open Go.Ax
theorem zly{lo:Nat}{H:Heap}{bv:V}{b:List Nat}{i:Nat}(hb:By lo H bv b)(b8:Ok8 b)(hi:i+1<b.length)(hl:b.length≤1000000) :
  Ok (sem T zaM [bv,.int .i64 (i:Nat)]) H λr H'=>r = .int .i64 (twoB b i:Nat)∧H'=H:=by
 refine zhQ ?_;unfold ze7 uL uB uIM uc uq;obtain⟨p0,hp0,hl0,-⟩:=by_at hb (i:=(i:Nat)) (by omega) (by omega);obtain⟨p1,hp1,hl1,-⟩:=by_at hb (i:=((i+1:Nat):Int)) (by omega) (by omega);rw[Int.toNat_natCast]at hl0 hl1;have h0:=b8.getD i;have h1:=b8.getD (i+1);have c0:=znl h0;have c1:=znl h1;have w:IntKind.i64.wrap (((i:Nat):Int)+1)=((i+1:Nat):Int):=by rw[wrap_i64 (by omega) (by omega)]; omega
 have sh:Ax.bin .shl (.int .i64 (b.getD i 0:Nat)) (.int .u64 8)=some (.int .i64 (b.getD i 0*256:Nat)):=by
  rw[zi7 (by decide)];have:((b.getD i 0:Nat):Int)*2 ^ min (8:Int).toNat IntKind.i64.bits=((b.getD i 0*256:Nat):Int):=by
   show((b.getD i 0:Nat):Int)*256 = _;omega
  rw[this,wrap_i64 (by omega) (by omega)]
 have ho:=two8 h0 h1;unfold twoB;generalize b.getD i 0=x at *;generalize b.getD (i+1) 0=y at *;have ho':Ax.bin .or (.int .i64 (x*256:Nat)) (.int .i64 (y:Nat))=some (.int .i64 (x*256+y:Nat)):=by
  rw[zpV (by omega) (by omega) (by omega) (by omega),Int.toNat_natCast,Int.toNat_natCast,ho]
 simp(disch:=omega)only[↓RD,RZ,hp0,hl0,hp1,hl1,c0,c1,w,sh,ho']
theorem zuf{lo:Nat}{H:Heap}{bv:V}{b:List Nat}(hb:By lo H bv b)(b8:Ok8 b)(h11:11≤b.length)(h9:twoB b 9=b.length-11)(h2:twoB b 9≤200)
  (hg:∀(H':Heap) (lo':Nat) (v:V),By lo' H' v (b.drop 11)→Ok (sem T zas [.agg (nC (rawN b) v)]) H' λr' H''=>r' = .bool true∧Grow H' H'') :
  Ok (sem T zbr [bv]) H λr H'=>Grow H H'∧∃v,r = .tup [.agg (nC (rawN b) v),.int .i64 0]∧By H.next H' v (b.drop 11):=by
 refine zgU ?_;unfold zej uL uM uS uT uF uB uI uO uU uc ub;have hl:b.length≤1000000:=by omega
 refine zao (zaK rfl ?_);rw[zam];have s1:=Grow.new H ⟨zab,nC zN .nils,none⟩;have p1:(H.new ⟨zab,nC zN .nils,none⟩).get H.next=some ⟨zab,nC zN .nils,none⟩:=zac _ _;have n1:(H.new ⟨zab,nC zN .nils,none⟩).next=H.next+1:=zaf _ _;show Ok _ (H.new ⟨zab,nC zN .nils,none⟩) _;generalize hq:H.next=q at *;generalize H.new _=H1 at *;have hb1:=hb.ext s1;have bl:=hb1.vlen;have d:decide (((b.length:Nat):Int)<11)=false:=decide_eq_false (by omega);have d':decide (b.length<11)=false:=decide_eq_false (by omega);obtain⟨p0,hp0,hl0,-⟩:=by_at hb1 (i:=0) (by omega) (by omega);obtain⟨p1',hp1,hl1,-⟩:=by_at hb1 (i:=1) (by omega) (by omega);obtain⟨p2,hp2,hl2,-⟩:=by_at hb1 (i:=2) (by omega) (by omega);have c0:=znl (b8.getD 0);have c1:=znl (b8.getD 1);have c2:=znl (b8.getD 2);have t3:=@zaQ _ _ _ _ (show Ok (sem T zaM [bv,.int .i64 3]) H1 _ from zly (i:=3) hb1 b8 (by omega) hl);have t5:=@zaQ _ _ _ _ (show Ok (sem T zaM [bv,.int .i64 5]) H1 _ from zly (i:=5) hb1 b8 (by omega) hl);have t7:=@zaQ _ _ _ _ (show Ok (sem T zaM [bv,.int .i64 7]) H1 _ from zly (i:=7) hb1 b8 (by omega) hl);simp(maxSteps:=1000000) (disch:=first|omega|(simp only[RY]<;>omega)|decide)only[↓RD,RZ,eq_self,Int.reduceToNat,Int.reduceAdd,Int.reduceSub,Int.reduceMul,Nat.reduceAdd,Nat.reduceSub,Nat.reduceMul,Nat.reduceDiv,Nat.reduceMod,Nat.reduceBEq,Nat.reduceLeDiff,bl,d,d',hp0,hp1,hp2,hl0,hl1,hl2,c0,c1,c2,t3,t5,t7];have h8:=b8.getD;have s2:Grow H1 ((H1.new ⟨zab,[.int .i64 0,.int .i64 0,.int .i64 0,.int .i64 0,.int .i64 0,.int .i64 0,.nils],none⟩).set H1.next (some ⟨zab,nC { rawN b with b:=[] } .nils,none⟩)):=(Grow.new _ _).set (Nat.le_refl _) _;have p3:((H1.new ⟨zab,[.int .i64 0,.int .i64 0,.int .i64 0,.int .i64 0,.int .i64 0,.int .i64 0,.nils],none⟩).set H1.next (some ⟨zab,nC { rawN b with b:=[] } .nils,none⟩)).get H1.next = _:=zan _ _ _;have n2:((H1.new ⟨zab,[.int .i64 0,.int .i64 0,.int .i64 0,.int .i64 0,.int .i64 0,.int .i64 0,.nils],none⟩).set H1.next (some ⟨zab,nC { rawN b with b:=[] } .nils,none⟩)).next=H1.next+1:=rfl;rw[zcG];rw[n1]at s2 p3 n2;rw[n1];unfold nC rawN at s2 p3 n2;dsimp only at s2 p3 n2;generalize Heap.set (Heap.new H1 _) _ _=H2 at *;have p2':=(s2.same q (by omega)).trans p1;have hb2:=hb1.ext s2;have s02:=s1.trans s2;have bl2:=hb2.vlen;have d1:decide ((200:Int)<((b.length-11:Nat):Int))=false:=decide_eq_false (by omega);have d1':decide (200<b.length-11)=false:=decide_eq_false (by omega);have w11:IntKind.i64.wrap (((b.length:Nat):Int)-11)=((b.length-11:Nat):Int):=by rw[wrap_i64 (by omega) (by omega)]; omega
 obtain⟨rv,-,-,hs,hrv,-⟩:=by_slice hb2 (x:=11) (y:=(b.length:Nat)) (by omega) (by omega) (by omega);replace hs:∀{kk:IntKind},zaU .sl 1 bv (some (.int kk 11)) none none=some rv:=hs rfl;have hr2:By lo H2 rv (b.drop 11):=by
  have e:((b.drop (11:Int).toNat).take (((b.length:Nat):Int).toNat-(11:Int).toNat))=b.drop 11:=List.take_of_length_le (by rw[List.length_drop,Int.toNat_natCast]; exact Nat.le_refl _);rw[e]at hrv;exact hrv
 refine zad (zly (i:=9) hb2 b8 (by omega) hl) ?_;rintro _ H2 ⟨rfl,rfl⟩;rw[h9];have dl:decide (((b.length-11:Nat):Int)<((b.length-11:Nat):Int))=false:=decide_eq_false (by omega);have dl':decide (b.length-11<b.length-11)=false:=decide_eq_false (by omega);simp(maxSteps:=1000000) (disch:=first|omega|(simp only[RY]<;>omega)|decide)only[↓RD,RZ,eq_self,Int.reduceToNat,Int.reduceAdd,Int.reduceSub,Int.reduceMul,Nat.reduceAdd,Nat.reduceSub,Nat.reduceMul,Nat.reduceDiv,Nat.reduceMod,Nat.reduceBEq,Nat.reduceLeDiff,d1,d1',bl2,w11,dl,dl',hs];rw[zcG];refine copy8 hr2 (by rw[List.length_drop]; omega) λv H3 hv s3=>?_;have n3:=s3.next;have p33:=(s3.same (q+1) (by omega)).trans p3;have p23:=(s3.same q (by omega)).trans p2';have vc3:=hv.by.cells1;have vo3:=hv.by.okc;simp(maxSteps:=1000000) (disch:=first|omega|(simp only[RY]<;>omega)|decide)only[↓RD,RZ,eq_self,Int.reduceToNat,Int.reduceAdd,Int.reduceSub,Int.reduceMul,Nat.reduceAdd,Nat.reduceSub,Nat.reduceMul,Nat.reduceDiv,Nat.reduceMod,Nat.reduceBEq,Nat.reduceLeDiff,p33,vc3,vo3];rw[zcG];have n2':H2.next=q+2:=by omega
 have a4:AtS [q+1] H3 (H3.set (q+1) (some ⟨zab,nC (rawN b) v,none⟩)):=AtS.set _ (by simp) _;have s34:Grow H (H3.set (q+1) (some ⟨zab,nC (rawN b) v,none⟩)):=(s02.trans s3).set (by omega) _;have p34:(H3.set (q+1) (some ⟨zab,nC (rawN b) v,none⟩)).get (q+1) = _:=zan _ _ _;have p24:(H3.set (q+1) (some ⟨zab,nC (rawN b) v,none⟩)).get q = _:=(zap _ _ (by omega)).trans p23;have n4:(H3.set (q+1) (some ⟨zab,nC (rawN b) v,none⟩)).next=H3.next:=rfl;have hv4:=Lc.atS hv.by a4 λj hj h=>by
  have:=(hv.by.own j hj).1;simp only[List.mem_singleton]at h;omega
 show Ok _ (H3.set (q+1) (some ⟨zab,nC (rawN b) v,none⟩)) _;generalize Heap.set H3 _ _=H4 at *;refine zad (hg H4 _ v hv4) ?_;rintro _ H5 ⟨rfl,s5⟩;have p35:=(s5.same (q+1) (by omega)).trans p34;have p25:=(s5.same q (by omega)).trans p24;have s05:=s34.trans s5;have hv5:=hv4.ext s5;have l7:ldc (some 7) (nC (rawN b) v) 0=some (.agg (nC (rawN b) v)):=rfl;have hc7:(nC (rawN b) v).length=7:=rfl;have ok7:(V.agg (nC (rawN b) v)).okc=true:=by simp[nC,V.okc,vo3]
 have sp7:splice (nC zN .nils) 0 (nC (rawN b) v)=nC (rawN b) v:=rfl;have hz7:(nC zN .nils).length=7:=rfl;simp(maxSteps:=1000000) (disch:=first|omega|(simp only[RY]<;>omega)|decide)only[↓RD,RZ,eq_self,Int.reduceToNat,Int.reduceAdd,Int.reduceSub,Int.reduceMul,Nat.reduceAdd,Nat.reduceSub,Nat.reduceMul,Nat.reduceDiv,Nat.reduceMod,Nat.reduceBEq,Nat.reduceLeDiff,p35,l7,p25,zam,hc7,ok7,sp7,hz7];refine⟨s05.set (by omega) _,v,rfl,?_⟩;exact(Lc.atS hv5 (AtS.set (S:=[q]) H5 (by simp) _) λj hj h=>by
  have:=(hv.by.own j hj).1;simp only[List.mem_singleton]at h;omega).low (by omega)
end Go.Ax.SU
