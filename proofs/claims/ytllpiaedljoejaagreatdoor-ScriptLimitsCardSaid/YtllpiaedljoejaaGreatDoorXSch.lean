/- Closed runs: the schedules of the regions that draw. Conditions: none. -/
import Derived.Test.YtllpiaedljoejaaGreatDoorVcX
namespace Go.Proofs.YtllpiaedljoejaaGreatDoor
open Go.Vc
set_option linter.unusedSimpArgs false
set_option linter.unusedVariables false
set_option maxRecDepth 100000
def schedX : Nat → Nat → Option (Option Nat × Sched)
  | 16 => fun i => match i with
    | 1 => some (some 1024, .still 0 false 992 <| .still 1 false 993 <| .still 2 false 995 <| .still 3 false 999 <| .still 5 true 31 <| .still 6 true 63 <| .still 7 true 127 <| .still 8 true 255 <| .still 9 true 511 <| .eff 4 <| .eff 10 <| .still 11 false 2047 <| .done)
    | _ => none
  | 24 => fun i => match i with
    | 4 => some (none, .still 0 false 240 <| .still 1 false 241 <| .still 2 false 243 <| .still 3 false 247 <| .still 4 false 271 <| .still 5 false 287 <| .still 6 false 319 <| .still 7 false 383 <| .still 8 false 255 <| .still 9 false 511 <| .done)
    | _ => none
  | 27 => fun i => match i with
    | 9 => some (none, .still 0 false 962 <| .still 1 false 973 <| .still 2 false 963 <| .still 3 false 967 <| .still 4 false 975 <| .still 5 false 991 <| .still 6 false 63 <| .still 7 false 127 <| .still 8 false 255 <| .still 9 false 511 <| .still 10 false 1023 <| .still 11 false 2047 <| .eff 12 <| .done)
    | _ => none
  | 32 => fun i => match i with
    | 9 => some (some 16, .still 0 false 12 <| .still 2 true 3 <| .still 3 true 7 <| .eff 1 <| .eff 4 <| .still 5 false 31 <| .done)
    | 22 => some (none, .still 0 false 304 <| .still 1 false 305 <| .still 2 false 307 <| .still 3 false 311 <| .still 4 false 271 <| .still 5 false 287 <| .still 8 true 255 <| .eff 6 <| .still 7 false 383 <| .done)
    | 28 => some (none, .still 0 false 304 <| .still 1 false 305 <| .still 2 false 307 <| .still 3 false 311 <| .still 4 false 271 <| .still 5 false 287 <| .still 8 true 255 <| .eff 6 <| .still 7 false 383 <| .done)
    | 34 => some (none, .still 1 false 97 <| .still 2 false 99 <| .still 3 false 103 <| .still 4 false 111 <| .still 5 false 31 <| .still 6 false 63 <| .still 0 true 1022 <| .eff 7 <| .eff 8 <| .eff 9 <| .eff 10 <| .still 11 false 2047 <| .done)
    | _ => none
  | 38 => fun i => match i with
    | 5 => some (some 0, .still 0 true 1020 <| .still 1 true 1021 <| .still 2 true 1011 <| .still 4 true 3951 <| .still 5 true 3871 <| .still 6 true 3903 <| .still 7 true 3967 <| .alt 3 (.alt 8 (.eff 9 <| .eff 10 <| .eff 11 <| .still 12 false 4095 <| .done) <| .eff 9 <| .eff 8 <| .eff 10 <| .eff 11 <| .still 12 false 4095 <| .done) <| .alt 8 (.alt 3 (.eff 9 <| .eff 10 <| .eff 11 <| .still 12 false 4095 <| .done) <| .eff 9 <| .eff 3 <| .eff 10 <| .eff 11 <| .still 12 false 4095 <| .done) <| .eff 9 <| .alt 3 (.eff 8 <| .eff 10 <| .eff 11 <| .still 12 false 4095 <| .done) <| .eff 8 <| .eff 3 <| .eff 10 <| .eff 11 <| .still 12 false 4095 <| .done)
    | _ => none
  | 42 => fun i => match i with
    | 3 => some (none, .still 0 false 16256 <| .still 1 false 16257 <| .still 2 false 16259 <| .still 3 false 16263 <| .still 4 false 16271 <| .still 5 false 16287 <| .still 6 false 16319 <| .still 7 false 127 <| .still 8 false 255 <| .still 9 false 511 <| .still 10 false 1023 <| .still 11 false 2047 <| .still 12 false 4095 <| .still 13 false 8191 <| .still 14 false 16383 <| .eff 15 <| .still 16 false 65535 <| .still 17 false 131071 <| .done)
    | _ => none
  | 47 => fun i => match i with
    | 1 => some (some 256, .still 2 false 195 <| .still 3 false 199 <| .still 0 true 252 <| .still 1 true 253 <| .still 6 true 63 <| .still 7 true 127 <| .eff 4 <| .still 5 false 223 <| .eff 8 <| .still 9 false 511 <| .done)
    | _ => none
  | 49 => fun i => match i with
    | 1 => some (some 2048, .still 0 true 1276 <| .still 2 true 1219 <| .still 1 true 1277 <| .still 3 true 1223 <| .still 6 true 1087 <| .still 7 true 1151 <| .alt 4 (.still 5 true 1247 <| .alt 8 (.still 9 true 1535 <| .eff 10 <| .eff 11 <| .done) <| .eff 10 <| .eff 8 <| .still 9 false 1535 <| .eff 11 <| .done) <| .eff 10 <| .eff 4 <| .still 5 false 1247 <| .eff 8 <| .still 9 false 1535 <| .eff 11 <| .done)
    | 3 => some (some 2560, .still 2 false 451 <| .still 3 false 455 <| .still 0 true 508 <| .still 6 true 63 <| .still 1 true 509 <| .still 7 true 127 <| .still 8 true 255 <| .eff 4 <| .still 5 false 479 <| .eff 9 <| .still 10 false 1023 <| .eff 11 <| .done)
    | 4 => some (some 2304, .still 0 false 216 <| .still 1 false 217 <| .still 3 true 199 <| .still 6 true 63 <| .still 4 true 207 <| .still 7 true 127 <| .eff 2 <| .eff 5 <| .eff 8 <| .still 9 false 511 <| .still 10 false 1023 <| .eff 11 <| .done)
    | _ => none
  | 54 => fun i => match i with
    | 1 => some (none, .still 0 false 0 <| .still 1 false 1 <| .still 2 false 3 <| .still 3 false 7 <| .still 4 false 15 <| .still 5 false 31 <| .still 6 false 31807 <| .still 7 false 31871 <| .still 8 false 31999 <| .still 9 false 32255 <| .still 10 false 1023 <| .still 11 false 2047 <| .still 12 false 4095 <| .still 13 false 8191 <| .still 14 false 16383 <| .still 15 false 32767 <| .still 16 false 65535 <| .done)
    | _ => none
  | 56 => fun i => match i with
    | 10 => some (some 0, .still 1 false 1 <| .still 2 false 3 <| .still 3 false 7 <| .still 0 true 254 <| .eff 4 <| .still 5 false 31 <| .still 6 false 191 <| .still 8 false 255 <| .still 9 false 511 <| .still 7 true 1919 <| .eff 10 <| .done)
    | _ => none
  | 59 => fun i => match i with
    | 3 => some (some 32768, .still 5 false 543 <| .still 6 false 575 <| .still 7 false 639 <| .still 8 false 767 <| .still 9 false 511 <| .still 10 false 1023 <| .still 0 true 8190 <| .still 1 true 4065 <| .still 2 true 4067 <| .still 3 true 4071 <| .still 4 true 4079 <| .eff 11 <| .eff 12 <| .still 13 false 8191 <| .still 14 false 16383 <| .eff 15 <| .done)
    | _ => none
  | 60 => fun i => match i with
    | 8 => some (none, .still 0 false 60 <| .still 1 false 61 <| .still 2 false 3 <| .still 3 false 7 <| .still 4 false 15 <| .still 5 false 31 <| .eff 6 <| .still 7 false 127 <| .still 8 false 767 <| .still 9 false 1535 <| .still 10 false 1023 <| .still 11 false 2047 <| .done)
    | _ => none
  | 61 => fun i => match i with
    | 6 => some (some 8192, .still 0 true 4896 <| .still 1 true 4897 <| .still 2 true 4899 <| .still 3 true 4903 <| .still 5 true 4895 <| .still 8 true 4351 <| .still 4 true 4911 <| .still 6 true 4927 <| .still 7 true 4991 <| .still 9 true 4607 <| .still 10 true 5119 <| .still 11 true 6143 <| .eff 12 <| .eff 13 <| .done)
    | _ => none
  | 63 => fun i => match i with
    | 11 => some (none, .still 0 false 131070 <| .still 1 false 131069 <| .still 2 false 15491 <| .still 3 false 15495 <| .still 4 false 15503 <| .still 5 false 15519 <| .still 6 false 15551 <| .still 7 false 15487 <| .still 8 false 15615 <| .still 9 false 15871 <| .still 10 false 1023 <| .still 11 false 2047 <| .still 12 false 4095 <| .still 13 false 8191 <| .still 14 false 16383 <| .still 15 false 32767 <| .still 16 false 65535 <| .eff 17 <| .done)
    | _ => none
  | 64 => fun i => match i with
    | 2 => some (none, .still 0 false 304 <| .still 1 false 305 <| .still 2 false 307 <| .still 3 false 311 <| .still 4 false 271 <| .still 5 false 287 <| .still 8 true 255 <| .eff 6 <| .still 7 false 383 <| .done)
    | 6 => some (none, .still 2 false 26619 <| .still 3 false 26599 <| .still 4 false 26607 <| .still 5 false 26591 <| .still 6 false 26559 <| .still 7 false 24703 <| .still 8 false 24831 <| .still 9 false 25087 <| .still 10 false 25599 <| .still 11 false 26623 <| .still 0 true 8190 <| .still 1 true 32765 <| .still 13 true 8191 <| .still 14 true 16383 <| .eff 12 <| .still 15 false 32767 <| .eff 16 <| .done)
    | _ => none
  | 65 => fun i => match i with
    | 2 => some (some 0, .still 0 true 1114096 <| .still 1 true 1114097 <| .still 2 true 1114099 <| .still 4 true 1113871 <| .still 5 true 1113887 <| .still 6 true 1113919 <| .still 8 true 1110271 <| .still 9 true 1110527 <| .still 10 true 1111039 <| .still 12 true 1052671 <| .still 13 true 1056767 <| .still 14 true 1064959 <| .still 3 true 1114103 <| .still 7 true 1113983 <| .still 11 true 1112063 <| .still 15 true 1081343 <| .alt 16 (.still 17 true 1179647 <| .still 18 true 1835007 <| .still 19 true 3670015 <| .eff 20 <| .eff 21 <| .still 22 false 4194303 <| .done) <| .eff 20 <| .eff 16 <| .still 17 false 1179647 <| .still 18 false 1835007 <| .still 19 true 3670015 <| .eff 21 <| .still 22 false 4194303 <| .done)
    | 3 => some (some 4096, .still 0 false 126 <| .still 2 false 67 <| .still 3 false 71 <| .still 4 false 79 <| .still 5 false 95 <| .still 7 false 127 <| .still 8 false 255 <| .still 1 true 1021 <| .still 6 true 959 <| .eff 9 <| .still 10 false 1023 <| .still 11 false 2047 <| .eff 12 <| .done)
    | _ => none
  | 66 => fun i => match i with
    | 1 => some (none, .still 0 false 962 <| .still 1 false 973 <| .still 2 false 963 <| .still 3 false 967 <| .still 4 false 975 <| .still 5 false 991 <| .still 6 false 63 <| .still 7 false 127 <| .still 8 false 255 <| .still 9 false 511 <| .still 10 false 1023 <| .still 11 false 2047 <| .eff 12 <| .done)
    | _ => none
  | 68 => fun i => match i with
    | 6 => some (some 536870912, .still 22 false 4194303 <| .still 23 false 8388607 <| .still 24 false 16777215 <| .still 0 true 536870910 <| .still 1 true 67108857 <| .still 3 true 67108839 <| .still 5 true 67108767 <| .still 7 true 67107967 <| .still 8 true 67108095 <| .still 10 true 67105791 <| .still 12 true 67096575 <| .still 14 true 67059711 <| .still 16 true 66650111 <| .still 17 true 66715647 <| .still 19 true 63438847 <| .still 20 true 63963135 <| .still 2 true 67108859 <| .still 4 true 67108847 <| .still 6 true 67108799 <| .still 9 true 67108351 <| .still 11 true 67106815 <| .still 13 true 67100671 <| .still 15 true 67076095 <| .still 18 true 66846719 <| .still 21 true 65011711 <| .eff 25 <| .eff 26 <| .eff 27 <| .eff 28 <| .eff 29 <| .still 30 false 1073741823 <| .done)
    | _ => none
  | 84 => fun i => match i with
    | 8 => some (none, .still 0 false 30 <| .still 1 false 53 <| .still 2 false 51 <| .still 3 false 55 <| .still 4 false 111 <| .still 5 false 31 <| .still 6 false 63 <| .still 7 false 127 <| .done)
    | _ => none
  | 87 => fun i => match i with
    | 3 => some (none, .still 0 false 2046 <| .still 1 false 961 <| .still 2 false 963 <| .still 3 false 967 <| .still 4 false 975 <| .still 5 false 991 <| .still 6 false 63 <| .still 7 false 127 <| .still 8 false 255 <| .still 9 false 511 <| .still 10 false 1023 <| .still 11 false 2047 <| .done)
    | 7 => some (none, .still 0 false 16368 <| .still 1 false 16369 <| .still 2 false 16371 <| .still 3 false 16375 <| .still 4 false 15631 <| .still 5 false 15647 <| .still 6 false 15679 <| .still 7 false 15743 <| .still 8 false 15615 <| .still 9 false 15871 <| .still 10 false 1023 <| .still 11 false 2047 <| .still 12 false 4095 <| .still 13 false 8191 <| .still 14 false 16383 <| .still 15 false 32767 <| .done)
    | _ => none
  | 91 => fun i => match i with
    | 1 => some (some 10240, .still 0 false 1752 <| .still 1 false 1753 <| .still 3 true 1735 <| .still 6 true 1599 <| .still 9 true 511 <| .still 4 true 1743 <| .still 7 true 1663 <| .still 10 true 1023 <| .eff 2 <| .eff 5 <| .eff 8 <| .eff 11 <| .still 12 false 4095 <| .eff 13 <| .done)
    | _ => none
  | 100 => fun i => match i with
    | 1 => some (some 4096, .still 0 true 3068 <| .still 3 true 2503 <| .still 7 true 2175 <| .still 1 true 3069 <| .still 4 true 2511 <| .still 8 true 2303 <| .alt 2 (.alt 5 (.alt 6 (.alt 9 (.still 10 true 3071 <| .eff 11 <| .eff 12 <| .done) <| .eff 11 <| .eff 9 <| .still 10 false 3071 <| .eff 12 <| .done) <| .eff 11 <| .eff 6 <| .eff 9 <| .still 10 false 3071 <| .eff 12 <| .done) <| .alt 6 (.alt 5 (.alt 9 (.still 10 true 3071 <| .eff 11 <| .eff 12 <| .done) <| .eff 11 <| .eff 9 <| .still 10 false 3071 <| .eff 12 <| .done) <| .eff 11 <| .eff 5 <| .eff 9 <| .still 10 false 3071 <| .eff 12 <| .done) <| .eff 11 <| .alt 5 (.eff 6 <| .eff 9 <| .still 10 false 3071 <| .eff 12 <| .done) <| .eff 6 <| .eff 5 <| .eff 9 <| .still 10 false 3071 <| .eff 12 <| .done) <| .alt 6 (.alt 2 (.alt 5 (.alt 9 (.still 10 true 3071 <| .eff 11 <| .eff 12 <| .done) <| .eff 11 <| .eff 9 <| .still 10 false 3071 <| .eff 12 <| .done) <| .eff 11 <| .eff 5 <| .eff 9 <| .still 10 false 3071 <| .eff 12 <| .done) <| .eff 11 <| .eff 2 <| .eff 5 <| .eff 9 <| .still 10 false 3071 <| .eff 12 <| .done) <| .eff 11 <| .alt 2 (.alt 5 (.eff 6 <| .eff 9 <| .still 10 false 3071 <| .eff 12 <| .done) <| .eff 6 <| .eff 5 <| .eff 9 <| .still 10 false 3071 <| .eff 12 <| .done) <| .eff 6 <| .eff 2 <| .eff 5 <| .eff 9 <| .still 10 false 3071 <| .eff 12 <| .done)
    | 5 => some (some 320, .still 0 true 60 <| .still 3 true 7 <| .still 1 true 61 <| .eff 2 <| .eff 4 <| .eff 5 <| .eff 6 <| .still 7 false 127 <| .eff 8 <| .done)
    | _ => none
  | 111 => fun i => match i with
    | 1 => some (none, .still 0 false 1008 <| .still 1 false 1009 <| .still 2 false 1011 <| .still 3 false 1015 <| .still 4 false 15 <| .still 5 false 31 <| .still 6 false 63 <| .still 7 false 127 <| .still 8 false 255 <| .still 9 false 511 <| .still 10 false 1023 <| .still 11 false 2047 <| .done)
    | _ => none
  | 115 => fun i => match i with
    | 1 => some (some 1024, .still 8 false 255 <| .still 0 true 800 <| .still 1 true 801 <| .still 2 true 803 <| .still 3 true 807 <| .still 5 true 799 <| .still 4 true 815 <| .still 6 true 831 <| .still 7 true 895 <| .eff 9 <| .eff 10 <| .still 11 false 2047 <| .still 12 false 12287 <| .still 13 false 24575 <| .still 14 false 16383 <| .still 15 false 32767 <| .done)
    | 2 => some (some 0, .still 0 false 0 <| .still 1 false 1 <| .still 2 false 3 <| .still 7 false 127 <| .still 3 true 391 <| .still 4 true 399 <| .still 5 true 415 <| .still 6 true 447 <| .eff 8 <| .still 9 false 511 <| .still 10 false 1023 <| .still 11 false 34815 <| .still 12 false 36863 <| .still 13 false 40959 <| .still 14 false 49151 <| .still 15 false 32767 <| .still 16 false 65535 <| .still 17 false 131071 <| .still 18 false 262143 <| .done)
    | 4 => some (none, .still 0 false 65520 <| .still 1 false 65521 <| .still 2 false 65523 <| .still 3 false 65527 <| .still 4 false 4623 <| .still 5 false 4639 <| .still 6 false 4671 <| .still 7 false 4735 <| .still 8 false 4863 <| .still 9 false 4607 <| .still 10 false 5119 <| .still 11 false 6143 <| .still 12 false 4095 <| .still 13 false 8191 <| .still 14 false 16383 <| .still 15 false 32767 <| .still 16 false 65535 <| .still 17 false 131071 <| .still 18 false 786431 <| .still 19 false 1572863 <| .still 20 false 1048575 <| .still 21 false 2097151 <| .done)
    | _ => none
  | 118 => fun i => match i with
    | 1 => some (none, .still 0 false 48 <| .still 1 false 49 <| .still 2 false 51 <| .still 3 false 55 <| .still 4 false 47 <| .still 5 false 31 <| .eff 6 <| .still 7 false 127 <| .done)
    | 10 => some (some 32, .still 1 false 9 <| .still 3 true 7 <| .still 0 true 30 <| .eff 2 <| .eff 4 <| .eff 5 <| .still 6 false 63 <| .done)
    | _ => none
  | 129 => fun i => match i with
    | 10 => some (none, .still 0 false 6 <| .still 1 false 9 <| .still 2 false 11 <| .still 3 false 7 <| .still 4 false 15 <| .done)
    | _ => none
  | 148 => fun i => match i with
    | 9 => some (some 1024, .still 0 true 254 <| .still 1 true 97 <| .still 2 true 99 <| .still 3 true 103 <| .still 4 true 111 <| .eff 5 <| .eff 6 <| .eff 7 <| .still 8 false 255 <| .still 9 false 511 <| .eff 10 <| .done)
    | 16 => some (none, .still 0 false 30 <| .still 1 false 225 <| .still 2 false 227 <| .still 3 false 231 <| .still 4 false 239 <| .still 5 false 31 <| .still 6 false 63 <| .still 7 false 127 <| .eff 8 <| .done)
    | _ => none
  | 156 => fun i => match i with
    | 1 => some (none, .still 0 false 1008 <| .still 1 false 1009 <| .still 2 false 1011 <| .still 3 false 1015 <| .still 4 false 15 <| .still 5 false 31 <| .still 6 false 63 <| .still 7 false 127 <| .still 8 false 255 <| .still 9 false 511 <| .still 10 false 1023 <| .still 11 false 2047 <| .still 12 false 4095 <| .done)
    | _ => none
  | 161 => fun i => match i with
    | 12 => some (none, .still 0 false 460 <| .still 1 false 461 <| .still 2 false 451 <| .still 3 false 455 <| .still 4 false 463 <| .still 5 false 479 <| .still 6 false 447 <| .still 7 false 127 <| .still 8 false 255 <| .eff 9 <| .still 10 false 1023 <| .done)
    | _ => none
  | 163 => fun i => match i with
    | 17 => some (some 8, .still 1 false 1 <| .still 0 true 6 <| .eff 2 <| .eff 3 <| .still 4 false 15 <| .done)
    | 21 => some (some 8, .still 1 false 1 <| .still 0 true 6 <| .eff 2 <| .eff 3 <| .still 4 false 15 <| .done)
    | _ => none
  | 185 => fun i => match i with
    | 2 => some (some 0, .still 0 false 0 <| .still 1 false 1 <| .still 2 false 3 <| .still 6 false 6463 <| .still 7 false 6527 <| .still 8 false 6399 <| .still 9 false 6655 <| .still 10 false 7167 <| .still 11 false 2047 <| .still 12 false 4095 <| .still 13 false 8191 <| .still 14 false 16383 <| .still 3 true 65479 <| .still 4 true 65487 <| .still 5 true 65503 <| .eff 15 <| .still 16 false 65535 <| .still 17 false 131071 <| .still 18 false 262143 <| .done)
    | 3 => some (some 0, .still 0 false 28 <| .still 2 true 3 <| .still 3 true 7 <| .still 4 true 15 <| .eff 1 <| .still 5 false 31 <| .still 6 false 63 <| .done)
    | _ => none
  | 187 => fun i => match i with
    | 1 => some (none, .still 0 false 420 <| .still 1 false 421 <| .still 2 false 419 <| .still 3 false 423 <| .still 4 false 431 <| .still 5 false 415 <| .still 6 false 447 <| .still 7 false 127 <| .still 8 false 255 <| .eff 9 <| .done)
    | _ => none
  | 196 => fun i => match i with
    | 3 => some (some 128, .still 1 true 57 <| .still 3 true 7 <| .still 4 true 15 <| .alt 0 (.alt 2 (.eff 5 <| .still 6 false 63 <| .eff 7 <| .still 8 false 255 <| .done) <| .eff 5 <| .eff 2 <| .still 6 false 63 <| .eff 7 <| .still 8 false 255 <| .done) <| .eff 5 <| .eff 0 <| .eff 2 <| .still 6 false 63 <| .eff 7 <| .still 8 false 255 <| .done)
    | _ => none
  | 199 => fun i => match i with
    | 1 => some (some 0, .still 1 false 33 <| .still 2 false 35 <| .still 3 false 39 <| .still 4 false 47 <| .still 5 false 31 <| .still 6 false 63 <| .still 7 false 127 <| .still 0 true 510 <| .eff 8 <| .still 9 false 511 <| .still 10 false 1023 <| .done)
    | _ => none
  | 201 => fun i => match i with
    | 11 => some (none, .still 0 false 496 <| .still 1 false 497 <| .still 2 false 499 <| .still 3 false 503 <| .still 4 false 495 <| .still 5 false 31 <| .still 6 false 63 <| .still 7 false 127 <| .still 8 false 255 <| .still 9 false 511 <| .still 10 false 1023 <| .eff 11 <| .done)
    | _ => none
  | 212 => fun i => match i with
    | 3 => some (none, .still 0 false 16776976 <| .still 1 false 16776977 <| .still 2 false 16776979 <| .still 3 false 16776983 <| .still 4 false 16776975 <| .still 5 false 16776991 <| .still 6 false 16777023 <| .still 7 false 16777087 <| .still 8 false 33493247 <| .still 9 false 33493503 <| .still 10 false 33494015 <| .still 11 false 33495039 <| .still 12 false 33492991 <| .still 13 false 33497087 <| .still 14 false 33505279 <| .still 15 false 33521663 <| .still 16 false 51445759 <| .still 17 false 51511295 <| .still 18 false 51642367 <| .still 19 false 51904511 <| .still 20 false 51380223 <| .still 21 false 52428799 <| .still 22 false 54525951 <| .still 23 false 58720255 <| .still 24 false 16777215 <| .still 25 false 33554431 <| .still 26 false 67108863 <| .done)
    | _ => none
  | 217 => fun i => match i with
    | 7 => some (none, .still 0 false 48 <| .still 1 false 49 <| .still 2 false 51 <| .still 3 false 55 <| .still 4 false 15 <| .still 5 false 31 <| .eff 6 <| .eff 7 <| .eff 8 <| .still 9 false 511 <| .done)
    | 11 => some (none, .still 0 false 48 <| .still 1 false 49 <| .still 2 false 51 <| .still 3 false 55 <| .still 4 false 15 <| .still 5 false 31 <| .eff 6 <| .eff 7 <| .eff 8 <| .still 9 false 511 <| .done)
    | 13 => some (none, .still 0 false 48 <| .still 1 false 49 <| .still 2 false 51 <| .still 3 false 55 <| .still 4 false 15 <| .still 5 false 31 <| .eff 6 <| .eff 7 <| .eff 8 <| .still 9 false 511 <| .done)
    | 15 => some (none, .still 0 false 240 <| .still 1 false 241 <| .still 2 false 243 <| .still 3 false 247 <| .still 4 false 207 <| .still 5 false 223 <| .still 6 false 63 <| .still 7 false 127 <| .eff 8 <| .eff 9 <| .eff 10 <| .still 11 false 2047 <| .done)
    | _ => none
  | 241 => fun i => match i with
    | 3 => some (some 256, .still 5 false 31 <| .still 0 true 112 <| .still 1 true 113 <| .still 2 true 115 <| .still 4 true 111 <| .still 3 true 119 <| .eff 6 <| .still 7 false 127 <| .eff 8 <| .done)
    | _ => none
  | 263 => fun i => match i with
    | 17 => some (none, .still 0 false 0 <| .still 1 false 1 <| .still 2 false 3 <| .still 3 false 8183 <| .still 4 false 7791 <| .still 5 false 7711 <| .still 6 false 7743 <| .still 7 false 7807 <| .still 8 false 7935 <| .still 9 false 1535 <| .still 10 false 1023 <| .still 11 false 2047 <| .still 12 false 4095 <| .eff 13 <| .still 14 false 16383 <| .still 15 false 32767 <| .still 16 false 65535 <| .done)
    | _ => none
  | 287 => fun i => match i with
    | 4 => some (none, .still 0 false 2 <| .still 1 false 1 <| .still 2 false 3 <| .still 3 false 7 <| .still 4 false 16367 <| .still 5 false 15967 <| .still 6 false 15935 <| .still 7 false 15999 <| .still 8 false 16127 <| .still 9 false 3583 <| .still 10 false 1023 <| .still 11 false 2047 <| .still 12 false 4095 <| .still 13 false 8191 <| .eff 14 <| .still 15 false 32767 <| .still 16 false 65535 <| .done)
    | 6 => some (none, .still 0 false 16382 <| .still 1 false 16381 <| .still 5 false 15583 <| .still 6 false 15423 <| .still 7 false 15487 <| .still 8 false 15615 <| .still 9 false 15871 <| .still 10 false 3071 <| .still 11 false 2047 <| .still 12 false 4095 <| .still 13 false 8191 <| .still 14 false 16383 <| .still 2 true 65531 <| .still 3 true 65511 <| .still 4 true 65519 <| .eff 15 <| .still 16 false 65535 <| .eff 17 <| .done)
    | _ => none
  | 314 => fun i => match i with
    | 17 => some (none, .still 0 false 0 <| .still 1 false 1 <| .still 2 false 3 <| .still 3 false 8183 <| .still 4 false 7791 <| .still 5 false 7711 <| .still 6 false 7743 <| .still 7 false 7807 <| .still 8 false 7935 <| .still 9 false 1535 <| .still 10 false 1023 <| .still 11 false 2047 <| .still 12 false 4095 <| .eff 13 <| .still 14 false 16383 <| .still 15 false 32767 <| .still 16 false 65535 <| .done)
    | _ => none
  | 315 => fun i => match i with
    | 4 => some (none, .still 0 false 2 <| .still 1 false 1 <| .still 2 false 3 <| .still 3 false 7 <| .still 4 false 16367 <| .still 5 false 15967 <| .still 6 false 15935 <| .still 7 false 15999 <| .still 8 false 16127 <| .still 9 false 3583 <| .still 10 false 1023 <| .still 11 false 2047 <| .still 12 false 4095 <| .still 13 false 8191 <| .eff 14 <| .still 15 false 32767 <| .still 16 false 65535 <| .done)
    | 6 => some (none, .still 0 false 16382 <| .still 1 false 16381 <| .still 5 false 15583 <| .still 6 false 15423 <| .still 7 false 15487 <| .still 8 false 15615 <| .still 9 false 15871 <| .still 10 false 3071 <| .still 11 false 2047 <| .still 12 false 4095 <| .still 13 false 8191 <| .still 14 false 16383 <| .still 2 true 65531 <| .still 3 true 65511 <| .still 4 true 65519 <| .eff 15 <| .still 16 false 65535 <| .eff 17 <| .done)
    | _ => none
  | 368 => fun i => match i with
    | 1 => some (none, .still 0 false 30 <| .still 1 false 1 <| .still 2 false 3 <| .still 3 false 7 <| .still 4 false 15 <| .still 5 false 31 <| .still 6 false 63 <| .still 7 false 127 <| .still 8 false 255 <| .still 9 false 511 <| .done)
    | _ => none
  | _ => fun _ => none
end Go.Proofs.YtllpiaedljoejaaGreatDoor
